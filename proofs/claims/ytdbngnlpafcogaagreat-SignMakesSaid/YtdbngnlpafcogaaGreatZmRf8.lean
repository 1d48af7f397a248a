/-
  The curve: limbs stand for points.
  The curve: what points' bytes say; which bytes are points.
  The curve: sums, negatives, multiples stand for what they should.
  The curve: the base point, its order; the ladder.
  The curve: the ladder's points; multiples of any point.
  The curve's laws: what the program's functions answer, by the points that they are given.
  The curve's laws: contracts over lists of bytes.
  The document's field: carrying digits: the plain law.
  The document's field: carrying digits: the walk.
  The document's field: bytes of digits: the plain law.
  The document's field: bytes of digits: the walk.
  The document's field: digits of bytes; a number of any bytes.
  The document's field: small numbers, sums, differences, which bytes are numbers.
  The document's field: products: the plain law.
  The document's field: products: the walk.
-/
import Derived.Test.YtdbngnlpafcogaaGreatZmEd4
import Derived.Test.YtdbngnlpafcogaaGreatZmCu2
set_option maxRecDepth 100000
namespace Go.Proofs.YtdbngnlpafcogaaGreat
open Go.RowKit Go.Mem Go.Txt
theorem PP_p:PP=Ed.p:=rfl
def fq(F:Nat→Nat):Ed.Fq:=Ed.mk (fv F)
theorem a4n{F:Nat→Nat}(h:Lim F):Rep F (fv F):=⟨h,rfl⟩
theorem b9d{F:Nat→Nat}{x:Nat}(h:Rep F x):fq F=Ed.mk x:=Ed.mk_eq.2 h.val
theorem fq_v(F:Nat→Nat):(fq F).v=fv F % PP:=rfl
theorem a5d{F G:Nat→Nat}(h:Lim F)(h2:Lim G):fq (mlF F G)=fq F * fq G:=(b9d ((a4n h).m (a4n h2))).trans (Ed.a2n _ _).symm
theorem b2p{F G:Nat→Nat}(h:Lim F)(h2:Lim G):fq (adF F G)=fq F + fq G:=(b9d ((a4n h).ad (a4n h2))).trans (Ed.a2v _ _).symm
theorem b2q{F G:Nat→Nat}(h:Lim F)(h2:Lim G):fq (suF F G)=fq F - fq G:=by
 have e:fq (suF F G) + fq G=fq F:=by
  rw [b9d ((a4n h).su (a4n h2))]
  exact(Ed.a2v _ _).trans (Ed.mk_eq.2 (d9u _ _))
 grind
theorem fq_sm(v:Nat):fq (smL v)=Ed.mk v:=by unfold fq;rw [b8r]
theorem d6f:fq (smL 0)=0:=fq_sm 0
theorem c2b:fq (smL 1)=1:=fq_sm 1
theorem fq_inv{F:Nat→Nat}(h:Lim F)(h0:fq F≠0):fq F * fq (b8l F)=1:=by
 rw [b9d ((a4n h).inv)]
 refine(Ed.a2n _ _).trans (Ed.mk_eq.2 ?_)
 have hn:fv F % PP≠0:=fun e=>h0 (Ed.mk_eq.2 (e.trans (Nat.zero_mod _).symm))
 exact(inv_mul hn).trans (show 1=1 % PP by decide +kernel)
theorem b3p(bs:List UInt8)(h:e0m bs=true):fq (b1j bs)=Ed.mk (leV bs):=by unfold fq;rw [e5f bs h]
theorem fq_kD:fq kD=Ed.D:=by
 unfold kD Ed.D
 rw [b3p _ (by decide +kernel)]
 exact Ed.mk_eq.2 (by decide +kernel)
theorem fq_kK:fq kK=Ed.D + Ed.D:=by
 unfold kK Ed.D
 rw [b3p _ (by decide +kernel)]
 exact(Ed.mk_eq.2 (by decide +kernel)).trans (Ed.a2v _ _).symm
structure Rp (p:P4) (P:Ed.Pt):Prop where
 ok:p.Ok
 z:fq p.z≠0
 x:P.x * fq p.z=fq p.x
 y:P.y * fq p.z=fq p.y
 t:P.x * P.y * fq p.z=fq p.t
theorem a9t:(1:Ed.Fq)≠0:=Ed.b6d
theorem Rp.af{X Y:Nat→Nat}{P:Ed.Pt}(hX:Lim X)(hY:Lim Y)(h1:P.x=fq X)(h2:P.y=fq Y):Rp (afQ X Y) P where
 ok:=c6i hX hY
 z:=by show fq (smL 1)≠0;rw [c2b];exact a9t
 x:=by show P.x * fq (smL 1)=fq X;rw [c2b,h1];grind
 y:=by show P.y * fq (smL 1)=fq Y;rw [c2b,h2];grind
 t:=by show P.x * P.y * fq (smL 1)=fq (mlF X Y);rw [c2b,a5d hX hY,h1,h2];grind
theorem Rp.some{p:P4}{P:Ed.Pt}(h:Rp p P):p.none=false:=by
 unfold P4.none P4.same
 refine decide_eq_false fun e=>h.z ?_
 have hl:=(d1m p pz).2 e
 have e5:∀i,i < 5→p.z i=pz.z i:=fun i hi=>(c0h hl i hi).2.2.1
 unfold fq fv
 rw [e5 0 (by omega),e5 1 (by omega),e5 2 (by omega),e5 3 (by omega),e5 4 (by omega)]
 rfl
theorem Rp.rt{p:P4}{P:Ed.Pt}(h:Rp p P):rtQ p=p:=by
 unfold rtQ
 rw [h.some];rfl
theorem c0m:Ed.Pt.zero.x=0:=by unfold Ed.Pt.zero;rfl
theorem c0c:Ed.Pt.zero.y=1:=by unfold Ed.Pt.zero;rfl
theorem c9r:Rp (rtQ pz) Ed.Pt.zero:=by
 have e:pz.none=true:=by unfold P4.none P4.same;exact decide_eq_true rfl
 unfold rtQ
 rw [e,if_pos rfl]
 exact Rp.af (a2g 0 (by omega)) (a2g 1 (by omega)) (by rw [d6f,c0m]) (by rw [c2b,c0c])
theorem sum_x(P Q:Ed.Pt):(P + Q).x=Ed.sx Ed.D P.x P.y Q.x Q.y:=by show(Ed.Pt.add P Q).x=_;unfold Ed.Pt.add;rfl
theorem sum_y(P Q:Ed.Pt):(P + Q).y=Ed.sy Ed.D P.x P.y Q.x Q.y:=by show(Ed.Pt.add P Q).y=_;unfold Ed.Pt.add;rfl
theorem c0v(P Q:Ed.Pt):(P + Q).x * (1 + Ed.D * P.x * Q.x * P.y * Q.y)=P.x * Q.y + Q.x * P.y:=by
 rw [sum_x];unfold Ed.sx
 exact Ed.div_mul (Ed.b9i.plus P.on Q.on)
theorem b9f(P Q:Ed.Pt):(P + Q).y * (1 - Ed.D * P.x * Q.x * P.y * Q.y)=P.y * Q.y + P.x * Q.x:=by
 rw [sum_y];unfold Ed.sy
 exact Ed.div_mul (Ed.b9i.minus P.on Q.on)
theorem d1f:(2:Ed.Fq)≠0:=Ed.e0t
section
variable {D x1 y1 x2 y2 u v X Y:Ed.Fq}
theorem pl_z:(u * v + u * v - x1 * y1 * u * (D + D) * (x2 * y2 * v)) * (u * v + u * v + x1 * y1 * u * (D + D) * (x2 * y2 * v))=2 * 2 * (u * u) * (v * v) * ((1 - D * x1 * x2 * y1 * y2) * (1 + D * x1 * x2 * y1 * y2)):=by grind
theorem pl_x(hx:X * (1 + D * x1 * x2 * y1 * y2)=x1 * y2 + x2 * y1):X * (2 * 2 * (u * u) * (v * v) * ((1 - D * x1 * x2 * y1 * y2) * (1 + D * x1 * x2 * y1 * y2)))=((y1 * u + x1 * u) * (y2 * v + x2 * v) - (y1 * u - x1 * u) * (y2 * v - x2 * v)) * (u * v + u * v - x1 * y1 * u * (D + D) * (x2 * y2 * v)):=by
 have e:X * (2 * 2 * (u * u) * (v * v) * ((1 - D * x1 * x2 * y1 * y2) * (1 + D * x1 * x2 * y1 * y2)))=X * (1 + D * x1 * x2 * y1 * y2) * (2 * 2 * (u * u) * (v * v) * (1 - D * x1 * x2 * y1 * y2)):=by clear hx;grind
 rw [e,hx]
 clear e hx
 grind
theorem pl_y(hy:Y * (1 - D * x1 * x2 * y1 * y2)=y1 * y2 + x1 * x2):Y * (2 * 2 * (u * u) * (v * v) * ((1 - D * x1 * x2 * y1 * y2) * (1 + D * x1 * x2 * y1 * y2)))=(u * v + u * v + x1 * y1 * u * (D + D) * (x2 * y2 * v)) * ((y1 * u + x1 * u) * (y2 * v + x2 * v) + (y1 * u - x1 * u) * (y2 * v - x2 * v)):=by
 have e:Y * (2 * 2 * (u * u) * (v * v) * ((1 - D * x1 * x2 * y1 * y2) * (1 + D * x1 * x2 * y1 * y2)))=Y * (1 - D * x1 * x2 * y1 * y2) * (2 * 2 * (u * u) * (v * v) * (1 + D * x1 * x2 * y1 * y2)):=by clear hy;grind
 rw [e,hy]
 clear e hy
 grind
theorem pl_t(hx:X * (1 + D * x1 * x2 * y1 * y2)=x1 * y2 + x2 * y1)(hy:Y * (1 - D * x1 * x2 * y1 * y2)=y1 * y2 + x1 * x2):X * Y * (2 * 2 * (u * u) * (v * v) * ((1 - D * x1 * x2 * y1 * y2) * (1 + D * x1 * x2 * y1 * y2)))=((y1 * u + x1 * u) * (y2 * v + x2 * v) - (y1 * u - x1 * u) * (y2 * v - x2 * v)) * ((y1 * u + x1 * u) * (y2 * v + x2 * v) + (y1 * u - x1 * u) * (y2 * v - x2 * v)):=by
 have e:X * Y * (2 * 2 * (u * u) * (v * v) * ((1 - D * x1 * x2 * y1 * y2) * (1 + D * x1 * x2 * y1 * y2)))=X * (1 + D * x1 * x2 * y1 * y2) * (Y * (1 - D * x1 * x2 * y1 * y2)) * (2 * 2 * (u * u) * (v * v)):=by clear hx hy;grind
 rw [e,hx,hy]
 clear e hx hy
 grind
theorem db_z(hon:y1 * y1 - x1 * x1=1 + D * x1 * x1 * y1 * y1):(u * u + u * u + (x1 * u * (x1 * u) - y1 * u * (y1 * u))) * (x1 * u * (x1 * u) - y1 * u * (y1 * u))= -1 * (u * u) * (u * u) * ((1 - D * x1 * x1 * y1 * y1) * (1 + D * x1 * x1 * y1 * y1)):=by
 have e:D * x1 * x1 * y1 * y1=y1 * y1 - x1 * x1 - 1:=by grind
 rw [e]
 clear e hon
 grind
theorem db_x(hon:y1 * y1 - x1 * x1=1 + D * x1 * x1 * y1 * y1)(hx:X * (1 + D * x1 * x1 * y1 * y1)=x1 * y1 + x1 * y1):X * (-1 * (u * u) * (u * u) * ((1 - D * x1 * x1 * y1 * y1) * (1 + D * x1 * x1 * y1 * y1)))=(x1 * u * (x1 * u) + y1 * u * (y1 * u) - (x1 * u + y1 * u) * (x1 * u + y1 * u)) * (u * u + u * u + (x1 * u * (x1 * u) - y1 * u * (y1 * u))):=by
 have e:D * x1 * x1 * y1 * y1=y1 * y1 - x1 * x1 - 1:=by clear hx;grind
 have e2:X * (-1 * (u * u) * (u * u) * ((1 - D * x1 * x1 * y1 * y1) * (1 + D * x1 * x1 * y1 * y1)))=X * (1 + D * x1 * x1 * y1 * y1) * (-1 * (u * u) * (u * u) * (1 - D * x1 * x1 * y1 * y1)):=by clear hx e hon;grind
 rw [e2,hx,e]
 clear e e2 hx hon
 grind
theorem db_y(hon:y1 * y1 - x1 * x1=1 + D * x1 * x1 * y1 * y1)(hy:Y * (1 - D * x1 * x1 * y1 * y1)=y1 * y1 + x1 * x1):Y * (-1 * (u * u) * (u * u) * ((1 - D * x1 * x1 * y1 * y1) * (1 + D * x1 * x1 * y1 * y1)))=(x1 * u * (x1 * u) - y1 * u * (y1 * u)) * (x1 * u * (x1 * u) + y1 * u * (y1 * u)):=by
 have e:D * x1 * x1 * y1 * y1=y1 * y1 - x1 * x1 - 1:=by clear hy;grind
 have e2:Y * (-1 * (u * u) * (u * u) * ((1 - D * x1 * x1 * y1 * y1) * (1 + D * x1 * x1 * y1 * y1)))=Y * (1 - D * x1 * x1 * y1 * y1) * (-1 * (u * u) * (u * u) * (1 + D * x1 * x1 * y1 * y1)):=by clear hy e hon;grind
 rw [e2,hy,e]
 clear e e2 hy hon
 grind
theorem db_t(hx:X * (1 + D * x1 * x1 * y1 * y1)=x1 * y1 + x1 * y1)(hy:Y * (1 - D * x1 * x1 * y1 * y1)=y1 * y1 + x1 * x1):X * Y * (-1 * (u * u) * (u * u) * ((1 - D * x1 * x1 * y1 * y1) * (1 + D * x1 * x1 * y1 * y1)))=(x1 * u * (x1 * u) + y1 * u * (y1 * u) - (x1 * u + y1 * u) * (x1 * u + y1 * u)) * (x1 * u * (x1 * u) + y1 * u * (y1 * u)):=by
 have e:X * Y * (-1 * (u * u) * (u * u) * ((1 - D * x1 * x1 * y1 * y1) * (1 + D * x1 * x1 * y1 * y1)))=X * (1 + D * x1 * x1 * y1 * y1) * (Y * (1 - D * x1 * x1 * y1 * y1)) * (-1 * (u * u) * (u * u)):=by clear hx hy;grind
 rw [e,hx,hy]
 clear e hx hy
 grind
end
theorem Rp.pl{p q:P4}{P Q:Ed.Pt}(hp:Rp p P)(hq:Rp q Q):Rp (plQ p q kK) (P + Q):=by
 have hx:=c0v P Q
 have hy:=b9f P Q
 have n1:=Ed.b9i.plus P.on Q.on
 have n2:=Ed.b9i.minus P.on Q.on
 have o1:=hp.ok
 have o2:=hq.ok
 have a:=a0j (a1g o1.y o1.x) (a1g o2.y o2.x)
 have b:=a0j (a0x o1.y o1.x) (a0x o2.y o2.x)
 have c0:=a0j o1.t a4e
 have c:=a0j c0 o2.t
 have d0:=a0j o1.z o2.z
 have d:=a0x d0 d0
 have ea:fq (mlF (suF p.y p.x) (suF q.y q.x))=(fq p.y - fq p.x) * (fq q.y - fq q.x):=by rw [a5d (a1g o1.y o1.x) (a1g o2.y o2.x),b2q o1.y o1.x,b2q o2.y o2.x]
 have eb:fq (mlF (adF p.y p.x) (adF q.y q.x))=(fq p.y + fq p.x) * (fq q.y + fq q.x):=by rw [a5d (a0x o1.y o1.x) (a0x o2.y o2.x),b2p o1.y o1.x,b2p o2.y o2.x]
 have ec:fq (mlF (mlF p.t kK) q.t)=fq p.t * (Ed.D + Ed.D) * fq q.t:=by rw [a5d c0 o2.t,a5d o1.t a4e,fq_kK]
 have ed:fq (adF (mlF p.z q.z) (mlF p.z q.z))=fq p.z * fq q.z + fq p.z * fq q.z:=by rw [b2p d0 d0,a5d o1.z o2.z]
 have ok:=b2m o1 o2 a4e
 have ex:fq (plQ p q kK).x=((fq p.y + fq p.x) * (fq q.y + fq q.x) - (fq p.y - fq p.x) * (fq q.y - fq q.x)) * (fq p.z * fq q.z + fq p.z * fq q.z - fq p.t * (Ed.D + Ed.D) * fq q.t):=by
  rw [←ea,←eb,←ec,←ed,←b2q b a,←b2q d c,←a5d (a1g b a) (a1g d c)];rfl
 have ey:fq (plQ p q kK).y=(fq p.z * fq q.z + fq p.z * fq q.z + fq p.t * (Ed.D + Ed.D) * fq q.t) * ((fq p.y + fq p.x) * (fq q.y + fq q.x) + (fq p.y - fq p.x) * (fq q.y - fq q.x)):=by
  rw [←ea,←eb,←ec,←ed,←b2p b a,←b2p d c,←a5d (a0x d c) (a0x b a)];rfl
 have ez:fq (plQ p q kK).z=(fq p.z * fq q.z + fq p.z * fq q.z - fq p.t * (Ed.D + Ed.D) * fq q.t) * (fq p.z * fq q.z + fq p.z * fq q.z + fq p.t * (Ed.D + Ed.D) * fq q.t):=by
  rw [←ec,←ed,←b2q d c,←b2p d c,←a5d (a1g d c) (a0x d c)];rfl
 have et:fq (plQ p q kK).t=((fq p.y + fq p.x) * (fq q.y + fq q.x) - (fq p.y - fq p.x) * (fq q.y - fq q.x)) * ((fq p.y + fq p.x) * (fq q.y + fq q.x) + (fq p.y - fq p.x) * (fq q.y - fq q.x)):=by
  rw [←ea,←eb,←b2q b a,←b2p b a,←a5d (a1g b a) (a0x b a)];rfl
 rw [←hp.x,←hp.y,←hq.x,←hq.y,←hp.t,←hq.t]at ex
 rw [←hp.x,←hp.y,←hq.x,←hq.y,←hp.t,←hq.t]at ey
 rw [←hp.t,←hq.t]at ez
 rw [←hp.x,←hp.y,←hq.x,←hq.y]at et
 have z1:=hp.z
 have z2:=hq.z
 clear ea eb ec ed a b c d c0 d0 o1 o2 hp hq
 generalize Ed.D=D at *
 generalize P.x=x1 at *
 generalize P.y=y1 at *
 generalize Q.x=x2 at *
 generalize Q.y=y2 at *
 generalize fq p.z=u at *
 generalize fq q.z=v at *
 have hz:fq (plQ p q kK).z=2 * 2 * (u * u) * (v * v) * ((1 - D * x1 * x2 * y1 * y2) * (1 + D * x1 * x2 * y1 * y2)):=by rw [ez];exact pl_z
 exact⟨ok,by
  rw [hz]
  exact Ed.a2j (Ed.a2j (Ed.a2j (Ed.a2j d1f d1f) (Ed.a2j z1 z1)) (Ed.a2j z2 z2)) (Ed.a2j n2 n1),
  by rw [hz,ex];exact pl_x hx,by rw [hz,ey];exact pl_y hy,by rw [hz,et];exact pl_t hx hy⟩
theorem Rp.db{p:P4}{P:Ed.Pt}(hp:Rp p P):Rp (dbQ p) (P + P):=by
 have hx:=c0v P P
 have hy:=b9f P P
 have n1:=Ed.b9i.plus P.on P.on
 have n2:=Ed.b9i.minus P.on P.on
 have hon:=P.on
 have o:=hp.ok
 have a:=a0j o.x o.x
 have b:=a0j o.y o.y
 have c:=a0j o.z o.z
 have h:=a0x a b
 have s:=a0x o.x o.y
 have s2:=a0j s s
 have e:=a1g h s2
 have g:=a1g a b
 have c2:=a0x c c
 have f:=a0x c2 g
 have eh:fq (adF (mlF p.x p.x) (mlF p.y p.y))=fq p.x * fq p.x + fq p.y * fq p.y:=by rw [b2p a b,a5d o.x o.x,a5d o.y o.y]
 have es:fq (mlF (adF p.x p.y) (adF p.x p.y))=(fq p.x + fq p.y) * (fq p.x + fq p.y):=by rw [a5d s s,b2p o.x o.y]
 have ee:fq (suF (adF (mlF p.x p.x) (mlF p.y p.y)) (mlF (adF p.x p.y) (adF p.x p.y)))=fq p.x * fq p.x + fq p.y * fq p.y - (fq p.x + fq p.y) * (fq p.x + fq p.y):=by rw [b2q h s2,eh,es]
 have eg:fq (suF (mlF p.x p.x) (mlF p.y p.y))=fq p.x * fq p.x - fq p.y * fq p.y:=by rw [b2q a b,a5d o.x o.x,a5d o.y o.y]
 have ef:fq (adF (adF (mlF p.z p.z) (mlF p.z p.z)) (suF (mlF p.x p.x) (mlF p.y p.y)))=fq p.z * fq p.z + fq p.z * fq p.z + (fq p.x * fq p.x - fq p.y * fq p.y):=by rw [b2p c2 g,b2p c c,a5d o.z o.z,eg]
 have ok:=c5i o
 have ex:fq (dbQ p).x=(fq p.x * fq p.x + fq p.y * fq p.y - (fq p.x + fq p.y) * (fq p.x + fq p.y)) * (fq p.z * fq p.z + fq p.z * fq p.z + (fq p.x * fq p.x - fq p.y * fq p.y)):=by
  rw [←ee,←ef,←a5d e f];rfl
 have ey:fq (dbQ p).y=(fq p.x * fq p.x - fq p.y * fq p.y) * (fq p.x * fq p.x + fq p.y * fq p.y):=by
  rw [←eg,←eh,←a5d g h];rfl
 have ez:fq (dbQ p).z=(fq p.z * fq p.z + fq p.z * fq p.z + (fq p.x * fq p.x - fq p.y * fq p.y)) * (fq p.x * fq p.x - fq p.y * fq p.y):=by
  rw [←ef,←eg,←a5d f g];rfl
 have et:fq (dbQ p).t=(fq p.x * fq p.x + fq p.y * fq p.y - (fq p.x + fq p.y) * (fq p.x + fq p.y)) * (fq p.x * fq p.x + fq p.y * fq p.y):=by
  rw [←ee,←eh,←a5d e h];rfl
 rw [←hp.x,←hp.y]at ex ey ez et
 have z1:=hp.z
 unfold Ed.onC at hon
 clear ee ef eg eh es a b c h s s2 e g c2 f o hp
 generalize Ed.D=D at *
 generalize P.x=x1 at *
 generalize P.y=y1 at *
 generalize fq p.z=u at *
 have hz:fq (dbQ p).z= -1 * (u * u) * (u * u) * ((1 - D * x1 * x1 * y1 * y1) * (1 + D * x1 * x1 * y1 * y1)):=by rw [ez];exact db_z hon
 have hm1:(-1:Ed.Fq)≠0:=fun e=>a9t (by grind)
 exact⟨ok,by
  rw [hz]
  exact Ed.a2j (Ed.a2j (Ed.a2j hm1 (Ed.a2j z1 z1)) (Ed.a2j z1 z1)) (Ed.a2j n2 n1),
  by rw [hz,ex];exact db_x hon hx,by rw [hz,ey];exact db_y hon hy,by rw [hz,et];exact db_t hx hy⟩
end Go.Proofs.YtdbngnlpafcogaaGreat
namespace Go.Proofs.YtdbngnlpafcogaaGreat
open Go.RowKit Go.Mem Go.Txt
def enc(P:Ed.Pt):Nat:=P.y.v + (if P.x.v % 2=1 then a3r else 0)
def b2r:Nat:=115792089237316195423570985008687907853269984665640564039457584007913129639936
theorem b8k(a:Ed.Fq):a.v < PP:=a.lt
theorem b8t(P:Ed.Pt):enc P < b2r:=by
 have:=b8k P.y
 unfold enc b2r a3r PP at *
 split <;> omega
theorem e5v{r:P4}{P:Ed.Pt}(h:Rp r P):encR r=enc P:=by
 have hi:=fq_inv h.ok.z h.z
 have li:=b2y h.ok.z
 have hy:fq (mlF r.y (b8l r.z))=P.y:=by
  rw [a5d h.ok.y li,←h.y]
  generalize fq (b8l r.z)=i at *
  generalize fq r.z=z at *
  clear h
  grind
 have hx:fq (mlF r.x (b8l r.z))=P.x:=by
  rw [a5d h.ok.x li,←h.x]
  generalize fq (b8l r.z)=i at *
  generalize fq r.z=z at *
  clear h
  grind
 unfold encR enc
 rw [←fq_v,←fq_v,hx,hy]
theorem d3e(a:Ed.Fq):(-a).v=if a.v=0 then 0 else PP - a.v:=by
 have h:=b8k a
 show(PP - a.v) % PP=_
 split
 ·rename_i h0;rw [h0,Nat.sub_zero,Nat.mod_self]
 ·exact Nat.mod_eq_of_lt (by omega)
theorem on_x(P:Ed.Pt):P.x * P.x * (Ed.D * P.y * P.y + 1)=P.y * P.y - 1:=by
 have h:=P.on
 unfold Ed.onC at h
 generalize Ed.D=D at *
 generalize P.x=x at *
 generalize P.y=y at *
 grind
theorem v_ne(y:Ed.Fq):Ed.D * y * y + 1≠0:=fun h=>by
 have hy:y≠0:=fun e=>a9t (by rw [e]at h;grind)
 have hi:=Ed.a4j y hy
 have hI:=Ed.e0h
 refine Ed.non_D (Ed.mk Ed.In * Ed.inv y) ?_
 generalize Ed.mk Ed.In=I at *
 generalize Ed.inv y=i at *
 generalize Ed.D=D at *
 have e1:D * y * y= -1:=by clear hi hI hy;grind
 have e2:I * i * (I * i)=I * I * (i * i):=by clear h hi hI hy e1;grind
 have e3:D=D * y * y * (i * i):=by
  have:D * y * y * (i * i)=D * (y * i) * (y * i):=by clear h hi hI hy e1 e2;grind
  rw [this,hi]
  clear this h hi hI hy e1 e2
  grind
 rw [e2,hI,e3,e1]
theorem a6j{a b:Ed.Fq}(h:a - b=0):a=b:=by grind
theorem b1x{a b:Ed.Fq}(h:a + b=0):a= -b:=by grind
theorem c8l{a b:Ed.Fq}(h:a * a=b * b):a=b∨a= -b:=by
 have e:(a - b) * (a + b)=0:=by grind
 exact(Ed.a3i e).imp a6j b1x
theorem x_of{P Q:Ed.Pt}(hy:P.y=Q.y):P.x=Q.x∨P.x= -Q.x:=by
 have h1:=on_x P
 have h2:=on_x Q
 have hv:=v_ne Q.y
 rw [hy]at h1
 apply c8l
 rw [←h2]at h1
 have e:(P.x * P.x - Q.x * Q.x) * (Ed.D * Q.y * Q.y + 1)=0:=by
  generalize P.x * P.x=a at *
  generalize Q.x * Q.x=b at *
  generalize Ed.D * Q.y * Q.y + 1=c at *
  clear h2 hv hy
  grind
 exact(Ed.a3i e).elim a6j fun h=>absurd h hv
theorem d8v:PP % 2=1:=by decide +kernel
theorem c2o{P Q:Ed.Pt}(h:enc P=enc Q):P=Q:=by
 have hp:=b8k P.y
 have hq:=b8k Q.y
 have hs:P.y.v=Q.y.v∧(P.x.v % 2=1↔Q.x.v % 2=1):=by
  unfold enc a3r PP at *
  split at h <;> split at h <;> constructor <;> omega
 have hy:P.y=Q.y:=Ed.Fq.ext hs.1
 refine Ed.Pt.ext ?_ hy
 rcases x_of hy with e | e
 ·exact e
 ·have hn:=d3e Q.x
  rw [←e]at hn
  have h1:=b8k Q.x
  have h2:=d8v
  split at hn
  ·exact Ed.Fq.ext (by omega)
  ·exfalso;omega
theorem c0a(X:Nat):leV (le (X % a3r) 32)=X % a3r:=by
 rw [a5f]
 apply Nat.mod_eq_of_lt
 have:X % a3r < a3r:=Nat.mod_lt _ (by decide +kernel)
 unfold a3r at *
 omega
theorem e0g(X:Nat):dcN X=decide (X % a3r < PP):=by unfold dcN e0m;rw [c0a]
theorem d9d{X:Nat}(h:X < b2r):dcO X=decide (a3r≤X):=by
 unfold dcO
 rw [decide_eq_decide]
 unfold c31 c3n a3r b2r at *
 omega
def yOf(X:Nat):Ed.Fq:=Ed.mk (X % a3r)
theorem c5a{X:Nat}(h:dcN X=true):fq (dcY X)=yOf X:=by
 unfold dcY
 rw [b3p _ h,c0a];rfl
theorem yOf_v{X:Nat}(h:dcN X=true):(yOf X).v=X % a3r:=by
 rw [e0g]at h
 exact Nat.mod_eq_of_lt (of_decide_eq_true h)
theorem e0f{X:Nat}(h:dcN X=true):fq (dcU X)=yOf X * yOf X - 1:=by
 have l:=a1f X
 unfold dcU
 rw [b2q (a0j l l) (a2g 1 (by omega)),a5d l l,c2b,c5a h]
theorem e0n{X:Nat}(h:dcN X=true):fq (dcV X)=yOf X * yOf X * Ed.D + 1:=by
 have l:=a1f X
 unfold dcV
 rw [b2p (a0j (a0j l l) a6v) (a2g 1 (by omega)),a5d (a0j l l) a6v,a5d l l,c2b,c5a h,fq_kD]
theorem d9m(X:Nat):dcZ X=decide ((fq (dcR X)).v=0):=by
 unfold dcZ
 rw [←le_zero,c0p _ _ (Nat.mod_lt _ a3e) a3e,decide_eq_decide,←fq_v]
theorem d9i(X:Nat):rtB (dcU X) (dcV X)=okM (fv (dcU X)) (fv (dcV X)):=(a4n (a8l X)).ok (a4n (a7y X))
theorem e1r{X:Nat}(h:rtB (dcU X) (dcV X)=true):fq (dcR X) * fq (dcR X) * fq (dcV X)=fq (dcU X)∧(fq (dcR X)).v % 2=0:=by
 rw [d9i]at h
 have hr:=(a4n (a8l X)).rt (a4n (a7y X)) h
 have e:=b9d hr
 constructor
 ·show fq (rtF (dcU X) (dcV X)) * fq (rtF (dcU X) (dcV X)) * fq (dcV X)=fq (dcU X)
  rw [e]
  exact(congrArg (Ed.mul · (fq (dcV X))) (Ed.a2n _ _)).trans ((Ed.a2n _ _).trans (Ed.mk_eq.2 (c9q h)))
 ·show(fq (rtF (dcU X) (dcV X))).v % 2=0
  have h2:=e2v (fv (dcU X)) (fv (dcV X))
  rw [PP_p]at h2
  rw [e,Ed.e7u]
  exact h2
theorem pt_on{x y:Ed.Fq}(h:x * x * (y * y * Ed.D + 1)=y * y - 1):Ed.onC Ed.D x y:=by
 unfold Ed.onC
 generalize Ed.D=D at *
 grind
theorem d5w{X:Nat}(h:X < b2r):X=X % a3r + (if a3r≤X then a3r else 0):=by
 unfold a3r b2r at *
 split <;> omega
theorem d9s{P:Ed.Pt}{X:Nat}(hX:X < b2r)(hn:dcN X=true)(hy:P.y=yOf X)(hx:P.x.v % 2=1↔a3r≤X):enc P=X:=by
 unfold enc
 rw [hy,yOf_v hn]
 have e:(if P.x.v % 2=1 then a3r else 0)=if a3r≤X then a3r else 0:=by
  by_cases h:a3r≤X
  ·rw [if_pos h,if_pos (hx.2 h)]
  ·rw [if_neg h,if_neg (fun e=>h (hx.1 e))]
 rw [e]
 exact(d5w hX).symm
theorem b9k{X:Nat}(hX:X < b2r)(h:b1w X=true):∃P,Rp (dcQ X) P∧enc P=X:=by
 rw [c1h X h]
 unfold b1w at h
 rw [Bool.and_eq_true,Bool.and_eq_true]at h
 obtain⟨hn,hr,hz⟩:=h
 have hs:=e1r hr
 rw [e0f hn,e0n hn]at hs
 obtain⟨hs,he⟩:=hs
 have hO:=d9d hX
 have lR:=b1v X
 have l0:=a2g 0 (by omega)
 have hp:=d8v
 by_cases ho:a3r≤X
 ·rw [decide_eq_true ho]at hO
  rw [hO,d9m,Bool.true_and]at hz
  have hz3:¬(fq (dcR X)).v=0:=fun e=>by rw [decide_eq_true e]at hz;exact absurd hz (by decide)
  rw [hO,if_pos rfl]
  have ex:fq (suF (smL 0) (dcR X))= - fq (dcR X):=by rw [b2q l0 lR,d6f];grind
  refine⟨⟨- fq (dcR X),yOf X,pt_on ?_⟩,Rp.af (a1g l0 lR) (a1f X) ex.symm (c5a hn).symm,d9s hX hn rfl ?_⟩
  ·rw [←hs]
   generalize fq (dcR X)=r at *
   generalize yOf X * yOf X * Ed.D + 1=v at *
   clear hs hz hz3 he ex
   grind
  ·refine⟨fun _=>ho,fun _=>?_⟩
   show(- fq (dcR X)).v % 2=1
   have hl:=b8k (fq (dcR X))
   rw [d3e,if_neg hz3]
   omega
 ·rw [decide_eq_false ho]at hO
  rw [hO,if_neg (by decide)]
  refine⟨⟨fq (dcR X),yOf X,pt_on hs⟩,Rp.af lR (a1f X) rfl (c5a hn).symm,d9s hX hn rfl ?_⟩
  refine⟨fun e=>?_,fun e=>absurd e ho⟩
  have e2:(fq (dcR X)).v % 2=1:=e
  omega
theorem e3c(a b:Ed.Fq):(a * b).v=a.v * b.v % PP:=rfl
theorem c5e(P:Ed.Pt):b1w (enc P)=true:=by
 have hX:=b8t P
 have hyl:=b8k P.y
 have hmod:enc P % a3r=P.y.v:=by
  unfold enc a3r PP at *
  split <;> omega
 have hn:dcN (enc P)=true:=by rw [e0g,hmod];exact decide_eq_true hyl
 have hy:yOf (enc P)=P.y:=Ed.Fq.ext (by rw [yOf_v hn,hmod])
 have hU:=e0f hn
 have hV:=e0n hn
 rw [hy]at hU hV
 have hvn:fq (dcV (enc P))≠0:=by
  rw [hV]
  have:=v_ne P.y
  rwa [show P.y * P.y * Ed.D=Ed.D * P.y * P.y from by grind]
 have hon:=on_x P
 have hrel:P.x * P.x * fq (dcV (enc P))=fq (dcU (enc P)):=by
  rw [hU,hV,←hon]
  generalize Ed.D=D at *
  clear hU hV hvn hon hy
  grind
 have hv0:fv (dcV (enc P)) % PP≠0:=fun e=>hvn (Ed.Fq.ext (e.trans Ed.b6b.symm))
 have hr:rtB (dcU (enc P)) (dcV (enc P))=true:=by
  rw [d9i]
  unfold okM
  rw [decide_eq_true hv0,Bool.true_and,decide_eq_true_eq,a9u]
  refine x1_yes (e0v (x:=P.x.v) ?_)
  unfold wM
  rw [a9u]
  have e1:P.x.v * P.x.v * fv (dcV (enc P)) % PP=fv (dcU (enc P)) % PP:=by
   have:=congrArg Ed.Fq.v hrel
   rw [e3c,e3c]at this
   have e2:(fq (dcV (enc P))).v=fv (dcV (enc P)) % PP:=rfl
   rw [e2,Nat.mul_mod]at this
   simp only [Nat.mod_mod]at this
   rw [←Nat.mul_mod]at this
   exact this
  have e2:=inv_mul hv0
  rw [←mm e1 rfl,show P.x.v * P.x.v * fv (dcV (enc P)) * b7o (fv (dcV (enc P)))=P.x.v * P.x.v * (fv (dcV (enc P)) * b7o (fv (dcV (enc P))))from by rw [Nat.mul_assoc],mm rfl (e2.trans (show 1=1 % PP by decide +kernel)),Nat.mul_one]
 unfold b1w
 rw [hn,hr,Bool.true_and,Bool.true_and,Bool.not_eq_true',Bool.and_eq_false_iff]
 by_cases ho:P.x.v % 2=1
 ·right
  rw [d9m]
  refine decide_eq_false fun e0=>?_
  have e:fq (dcR (enc P))=0:=Ed.Fq.ext (e0.trans Ed.b6b.symm)
  have hs:=(e1r hr).1
  rw [e,←hrel]at hs
  have h0:P.x * P.x * fq (dcV (enc P))=0:=by rw [←hs];grind
  rcases Ed.a3i h0 with h1 | h1
  ·rcases Ed.a3i h1 with h2 | h2 <;> (rw [h2]at ho;exact absurd ho (by rw [Ed.b6b];decide))
  ·exact hvn h1
 ·left
  rw [d9d hX]
  refine decide_eq_false fun e=>?_
  unfold enc at e
  rw [if_neg ho]at e
  unfold a3r PP at *
  omega
theorem e5e(P:Ed.Pt):Rp (dcQ (enc P)) P:=by
 obtain⟨Q,hq,he⟩:=b9k (b8t P) (c5e P)
 rwa [c2o he]at hq
end Go.Proofs.YtdbngnlpafcogaaGreat
namespace Go.Proofs.YtdbngnlpafcogaaGreat
open Go.RowKit Go.Mem Go.Txt
structure Rq (p:P4) (P:Ed.Pt):Prop where
 ok:p.Ok
 r:Rp (rtQ p) P
theorem Rp.q{p:P4}{P:Ed.Pt}(h:Rp p P):Rq p P:=⟨h.ok,by rw [h.rt];exact h⟩
theorem Rq.enc{p:P4}{P:Ed.Pt}(h:Rq p P):e6a p=enc P:=e5v h.r
theorem Rq.ad{p q:P4}{P Q:Ed.Pt}(h:Rq p P)(h2:Rq q Q):Rp (adQ p q) (P + Q):=h.r.pl h2.r
theorem e0w(P:Ed.Pt):P.neg.x= -P.x:=by unfold Ed.Pt.neg;rfl
theorem d9o(P:Ed.Pt):P.neg.y=P.y:=by unfold Ed.Pt.neg;rfl
theorem Rq.ng{p:P4}{P:Ed.Pt}(h:Rq p P):Rp (ngQ p) P.neg:=by
 have hr:=h.r
 have l0:=a2g 0 (by omega)
 have ex:fq (ngQ p).x= - fq (rtQ p).x:=by show fq (suF (smL 0) (rtQ p).x)=_;rw [b2q l0 hr.ok.x,d6f];grind
 have et:fq (ngQ p).t= - fq (rtQ p).t:=by show fq (suF (smL 0) (rtQ p).t)=_;rw [b2q l0 hr.ok.t,d6f];grind
 have h1:=hr.x
 have h2:=hr.t
 refine⟨ngQ_ok h.ok,hr.z,?_,by rw [d9o];exact hr.y,?_⟩
 ·show P.neg.x * fq (rtQ p).z=_
  rw [ex,e0w,←h1]
  generalize fq (rtQ p).z=z
  generalize P.x=x
  clear h1 h2 ex et hr
  grind
 ·show P.neg.x * P.neg.y * fq (rtQ p).z=_
  rw [et,e0w,d9o,←h2]
  generalize fq (rtQ p).z=z
  generalize P.x=x
  generalize P.y=y
  clear h1 h2 ex et hr
  grind
theorem Rp.uniq{p:P4}{P Q:Ed.Pt}(h:Rp p P)(h2:Rp p Q):P=Q:=by
 have hz:=h.z
 have c:∀a b z:Ed.Fq,z≠0→a * z=b * z→a=b:=fun a b z h0 e=>by
  have e2:(a - b) * z=0:=by grind
  exact(Ed.a3i e2).elim a6j fun e=>absurd e h0
 exact Ed.Pt.ext (c _ _ _ hz (h.x.trans h2.x.symm)) (c _ _ _ hz (h.y.trans h2.y.symm))
theorem b2w{F G:Nat→Nat}(h:∀i,i < 5→F i=G i):fq F=fq G:=by
 unfold fq fv
 rw [h 0 (by omega),h 1 (by omega),h 2 (by omega),h 3 (by omega),h 4 (by omega)]
theorem Rp.same{p q:P4}{P:Ed.Pt}(h:Rp p P)(hq:q.Ok)(e:p.n=q.n):Rp q P:=by
 have hl:=(d1m p q).2 e
 have ex:fq p.x=fq q.x:=b2w fun i hi=>(c0h hl i hi).1
 have ey:fq p.y=fq q.y:=b2w fun i hi=>(c0h hl i hi).2.1
 have ez:fq p.z=fq q.z:=b2w fun i hi=>(c0h hl i hi).2.2.1
 have et:fq p.t=fq q.t:=b2w fun i hi=>(c0h hl i hi).2.2.2
 exact⟨hq,ez▸h.z,ez▸ex▸h.x,ez▸ey▸h.y,ez▸et▸h.t⟩
theorem d2v{p b:P4}{P B:Ed.Pt}(hb:Rp b B)(h:Rq p P)(e:p.same b=true):P=B:=by
 have e2:p.n=b.n:=of_decide_eq_true e
 have hn:p.none=false:=by
  have:=hb.some
  unfold P4.none P4.same at this ⊢
  rwa [e2]
 have hr:=h.r
 have hrt:rtQ p=p:=by unfold rtQ;rw [hn];rfl
 rw [hrt]at hr
 exact(hr.same hb.ok e2).uniq hb
theorem b7r{p:P4}{P:Ed.Pt}(h:Rq p P):∀i,Rp (a2l p kK i) (Ed.Pt.mul i P)
 | 0=>c9r
 | 1=>by rw [Ed.Pt.c7x];exact h.r
 | n + 2=>(b7r h (n + 1)).pl h.r
theorem c9v{r:P4}{P:Ed.Pt}(h:Rp r P):∀k,Rp (dbN r k) (Ed.Pt.mul (2 ^ k) P)
 | 0=>by rw [Nat.pow_zero,Ed.Pt.c7x];exact h
 | k + 1=>by
   have:=(c9v h k).db
   rw [←Ed.Pt.mul_add,←Nat.two_mul,Nat.mul_comm,←Nat.pow_succ]at this
   exact this
theorem b6s(X k:Nat)(hk:k < 64):X / 2 ^ (256 - 4 * (k + 1))=X / 2 ^ (256 - 4 * k) * 2 ^ 4 + dgt X (63 - k):=by
 unfold dgt
 rw [show 256 - 4 * k=(252 - 4 * k) + 4 from by omega,show 256 - 4 * (k + 1)=252 - 4 * k from by omega,show 4 * (63 - k)=252 - 4 * k from by omega,Nat.pow_add,←Nat.div_div_eq_div_mul]
 generalize X / 2 ^ (252 - 4 * k)=Y
 omega
theorem a8s:b2r=2 ^ 256:=by decide +kernel
theorem e1n{f:Nat→P4}{P:Ed.Pt}(hf:∀i,Rp (f i) (Ed.Pt.mul i P)){X:Nat}(hX:X < b2r):∀k,k≤64→Rp (muA f X k) (Ed.Pt.mul (X / 2 ^ (256 - 4 * k)) P)
 | 0,_=>by
   rw [show X / 2 ^ (256 - 4 * 0)=0 from Nat.div_eq_of_lt (by rw [a8s]at hX;exact hX)]
   exact hf 0
 | k + 1,hk=>by
   have:=(c9v (e1n hf hX k (by omega)) 4).pl (hf (dgt X (63 - k)))
   rw [←Ed.Pt.a6c,←Ed.Pt.mul_add,←b6s X k (by omega)]at this
   exact this
theorem mu_rp{p:P4}{P:Ed.Pt}(h:Rq p P){X:Nat}(hX:X < b2r):Rp (muA (a2l p kK) X 64) (Ed.Pt.mul X P):=by
 have:=e1n (b7r h) hX 64 (by omega)
 rwa [show 256 - 4 * 64=0 from rfl,Nat.pow_zero,Nat.div_one]at this
theorem d9x{f g:Nat→P4}{B P:Ed.Pt}(hf:∀i,Rp (f i) (Ed.Pt.mul i B))(hg:∀i,Rp (g i) (Ed.Pt.mul i P)){X Y:Nat}(hX:X < b2r)(hY:Y < b2r) :
 ∀k,k≤64→Rp (boA f g X Y k) (Ed.Pt.mul (X / 2 ^ (256 - 4 * k)) B + Ed.Pt.mul (Y / 2 ^ (256 - 4 * k)) P)
 | 0,_=>by
   rw [show X / 2 ^ (256 - 4 * 0)=0 from Nat.div_eq_of_lt (by rw [a8s]at hX;exact hX),show Y / 2 ^ (256 - 4 * 0)=0 from Nat.div_eq_of_lt (by rw [a8s]at hY;exact hY),Ed.Pt.b1t,Ed.Pt.b1t,Ed.Pt.add_zero]
   exact hf 0
 | k + 1,hk=>by
   have:=((c9v (d9x hf hg hX hY k (by omega)) 4).pl (hf (dgt X (63 - k)))).pl (hg (dgt Y (63 - k)))
   rw [Ed.Pt.e6b,←Ed.Pt.a6c,←Ed.Pt.a6c,Ed.Pt.assoc,Ed.Pt.four,←Ed.Pt.mul_add,←Ed.Pt.mul_add,←b6s X k (by omega),←b6s Y k (by omega)]at this
   exact this
theorem bo_rp{p b:P4}{P B:Ed.Pt}(hb:Rq b B)(h:Rq p P){X Y:Nat}(hX:X < b2r)(hY:Y < b2r):Rp (boA (a2l b kK) (a2l p kK) X Y 64) (Ed.Pt.mul X B + Ed.Pt.mul Y P):=by
 have:=d9x (b7r hb) (b7r h) hX hY 64 (by omega)
 rwa [show 256 - 4 * 64=0 from rfl,Nat.pow_zero,Nat.div_one,Nat.div_one]at this
def sm(X c:Nat):Nat→Nat
 | 0=>0
 | j + 1=>sm X c j + byt X j / 2 ^ c * 256 ^ j
theorem d1p(X b:Nat)(hb:b < 8):∀j,sm X b j=2 * sm X (b + 1) j + (List.range j).foldl (fun s i=>s + (if tb X (8 * i + b)then 1 else 0) * 256 ^ i) 0
 | 0=>rfl
 | j + 1=>by
   rw [List.range_succ,List.foldl_append,List.foldl_cons,List.foldl_nil,sm,sm,d1p X b hb j]
   have e:byt X j / 2 ^ b=2 * (byt X j / 2 ^ (b + 1)) + if tb X (8 * j + b)then 1 else 0:=by
    have h1:=d0j X j b hb
    rw [Nat.pow_succ,←Nat.div_div_eq_div_mul]
    unfold tb
    rw [←h1]
    generalize byt X j / 2 ^ b=y
    by_cases hy:y % 2=1
    ·rw [if_pos (by simpa using hy)];omega
    ·rw [if_neg (by simpa using hy)];omega
   rw [e,Nat.add_mul]
   generalize (if tb X (8 * j + b)then 1 else 0) * 256 ^ j=A
   rw [Nat.mul_add,Nat.mul_assoc]
   omega
theorem d9j{f:Nat→P4}{B:Ed.Pt}(hf:∀i,i < 32→Rp (f i) (Ed.Pt.mul (256 ^ i) B))(X b n:Nat){r:P4}(hr:Rp r (Ed.Pt.mul n B)) :
 ∀i,i≤32→Rp (baI f X b r i) (Ed.Pt.mul (n + (List.range i).foldl (fun s i=>s + (if tb X (8 * i + b)then 1 else 0) * 256 ^ i) 0) B)
 | 0,_=>hr
 | i + 1,hi=>by
   have ih:=d9j hf X b n hr i (by omega)
   rw [List.range_succ,List.foldl_append,List.foldl_cons,List.foldl_nil,baI]
   by_cases ht:tb X (8 * i + b)=true
   ·rw [if_pos ht,if_pos ht,Nat.one_mul,←Nat.add_assoc,Ed.Pt.mul_add]
    exact ih.pl (hf i (by omega))
   ·rw [if_neg ht,if_neg ht,Nat.zero_mul,Nat.add_zero]
    exact ih
theorem d9p{f:Nat→P4}{B:Ed.Pt}(hf:∀i,i < 32→Rp (f i) (Ed.Pt.mul (256 ^ i) B))(X:Nat):∀k,k≤8→Rp (baA f X k) (Ed.Pt.mul (sm X (8 - k) 32) B)
 | 0,_=>by
   have e:∀j,sm X 8 j=0:=fun j=>by
    induction j with
    | zero=>rfl
    | succ j ih=>rw [sm,ih,show byt X j / 2 ^ 8=0 from Nat.div_eq_of_lt (c4n X j),Nat.zero_mul]
   rw [show 8 - 0=8 from rfl,e]
   exact c9r
 | k + 1,hk=>by
   have h1:=(d9p hf X k (by omega)).db
   rw [←Ed.Pt.mul_add,←Nat.two_mul]at h1
   have h2:=d9j hf X (7 - k) _ h1 32 (by omega)
   rw [show 8 - k=(7 - k) + 1 from by omega,←d1p X (7 - k) (by omega)]at h2
   rw [show 8 - (k + 1)=7 - k from by omega]
   exact h2
theorem d9l(X:Nat):∀j,sm X 0 j=X % 256 ^ j
 | 0=>by rw [Nat.pow_zero,Nat.mod_one];rfl
 | j + 1=>by
   rw [sm,d9l X j,Nat.pow_zero,Nat.div_one,Nat.pow_succ]
   unfold byt
   rw [show(2:Nat) ^ (8 * j)=256 ^ j from by rw [Nat.pow_mul],Nat.mod_mul,Nat.mul_comm (256 ^ j)]
theorem ba_rp{f:Nat→P4}{B:Ed.Pt}(hf:∀i,i < 32→Rp (f i) (Ed.Pt.mul (256 ^ i) B)){X:Nat}(hX:X < b2r):Rp (baA f X 8) (Ed.Pt.mul X B):=by
 have:=d9p hf X 8 (by omega)
 rw [show 8 - 8=0 from rfl,d9l,show(256:Nat) ^ 32=b2r from by decide +kernel,Nat.mod_eq_of_lt hX]at this
 exact this
end Go.Proofs.YtdbngnlpafcogaaGreat
namespace Go.Proofs.YtdbngnlpafcogaaGreat
open Go.RowKit Go.Mem Go.Txt
def bxN:Nat:=15112221349535400772501151409588531511454012693041857206046113283949847762202
def byN:Nat:=46316835694926478169428394003475163141307993866256225615783033603165251855960
theorem on_nat{x y:Nat}(h:y * y % PP=(1 + Ed.Dn * x * x * y * y + x * x) % PP):Ed.onC Ed.D (Ed.mk x) (Ed.mk y):=by
 unfold Ed.onC Ed.D
 have e:Ed.mk y * Ed.mk y=1 + Ed.mk Ed.Dn * Ed.mk x * Ed.mk x * Ed.mk y * Ed.mk y + Ed.mk x * Ed.mk x:=by
  show Ed.mul (Ed.mk y) (Ed.mk y)=Ed.add (Ed.add (Ed.mk 1) (Ed.mul (Ed.mul (Ed.mul (Ed.mul (Ed.mk Ed.Dn) (Ed.mk x)) (Ed.mk x)) (Ed.mk y)) (Ed.mk y))) (Ed.mul (Ed.mk x) (Ed.mk x))
  rw [Ed.a2n,Ed.a2n,Ed.a2n,Ed.a2n,Ed.a2n,Ed.a2n,Ed.a2v,Ed.a2v]
  exact Ed.mk_eq.2 h
 generalize Ed.mk Ed.Dn=D at *
 generalize Ed.mk x=X at *
 generalize Ed.mk y=Y at *
 clear h
 grind
def BB:Ed.Pt:=⟨Ed.mk bxN,Ed.mk byN,on_nat (by decide +kernel)⟩
theorem c3a:Rp baQ BB:=Rp.af (a3k _) (a3k _) ((b3p bxB (by decide +kernel)).trans (Ed.mk_eq.2 (by decide +kernel))).symm ((b3p byB (by decide +kernel)).trans (Ed.mk_eq.2 (by decide +kernel))).symm
structure N3 where
 x:Nat
 y:Nat
 z:Nat
structure RN (n:N3) (P:Ed.Pt):Prop where
 z:Ed.mk n.z≠0
 x:P.x * Ed.mk n.z=Ed.mk n.x
 y:P.y * Ed.mk n.z=Ed.mk n.y
def dN(n:N3):N3:=⟨2 * n.x * n.y * (2 * (n.z * n.z) + n.x * n.x + (PP * PP - n.y * n.y)) % PP,(n.y * n.y + (PP * PP - n.x * n.x)) * (n.x * n.x + n.y * n.y) % PP,(2 * (n.z * n.z) + n.x * n.x + (PP * PP - n.y * n.y)) * (n.y * n.y + (PP * PP - n.x * n.x)) % PP⟩
structure Sml (n:N3):Prop where
 x:n.x < PP
 y:n.y < PP
theorem a7n(n:Nat):Ed.mk (n % PP)=Ed.mk n:=Ed.mk_eq.2 (Nat.mod_mod _ _)
theorem a9v(m n:Nat):Ed.mk (m + n)=Ed.mk m + Ed.mk n:=(Ed.a2v m n).symm
theorem a4a(m n:Nat):Ed.mk (m * n)=Ed.mk m * Ed.mk n:=(Ed.a2n m n).symm
theorem mk_2:Ed.mk 2=(2:Ed.Fq):=rfl
theorem c4t{a:Nat}(h:a < PP):Ed.mk (PP * PP - a * a)= - (Ed.mk a * Ed.mk a):=by
 have e:Ed.mk (PP * PP - a * a) + Ed.mk a * Ed.mk a=0:=by
  rw [←a4a,←a9v,Nat.sub_add_cancel (Nat.mul_le_mul (Nat.le_of_lt h) (Nat.le_of_lt h))]
  exact Ed.mk_eq.2 (by decide +kernel)
 exact b1x e
theorem Sml.d{n:N3}:Sml (dN n):=⟨Nat.mod_lt _ a3e,Nat.mod_lt _ a3e⟩
section
variable {D x1 y1 u X Y:Ed.Fq}
theorem dn_f(hon:y1 * y1 - x1 * x1=1 + D * x1 * x1 * y1 * y1):2 * (u * u) + x1 * u * (x1 * u) + -(y1 * u * (y1 * u))=u * u * (1 - D * x1 * x1 * y1 * y1):=by
 have e:D * x1 * x1 * y1 * y1=y1 * y1 - x1 * x1 - 1:=by grind
 rw [e]
 clear e hon
 grind
theorem dn_g(hon:y1 * y1 - x1 * x1=1 + D * x1 * x1 * y1 * y1):y1 * u * (y1 * u) + -(x1 * u * (x1 * u))=u * u * (1 + D * x1 * x1 * y1 * y1):=by
 rw [←hon]
 clear hon
 grind
theorem dn_x{m:Ed.Fq}(hx:X * (1 + m)=x1 * y1 + x1 * y1):X * (u * u * (1 - m) * (u * u * (1 + m)))=2 * (x1 * u) * (y1 * u) * (u * u * (1 - m)):=by
 have e:X * (u * u * (1 - m) * (u * u * (1 + m)))=X * (1 + m) * (u * u * (1 - m) * (u * u)):=by clear hx;grind
 rw [e,hx]
 clear e hx
 grind
theorem dn_y{m:Ed.Fq}(hy:Y * (1 - m)=y1 * y1 + x1 * x1):Y * (u * u * (1 - m) * (u * u * (1 + m)))=u * u * (1 + m) * (x1 * u * (x1 * u) + y1 * u * (y1 * u)):=by
 have e:Y * (u * u * (1 - m) * (u * u * (1 + m)))=Y * (1 - m) * (u * u * (1 + m) * (u * u)):=by clear hy;grind
 rw [e,hy]
 clear e hy
 grind
end
theorem RN.d{n:N3}{P:Ed.Pt}(h:RN n P)(s:Sml n):RN (dN n) (P + P):=by
 have hx:=c0v P P
 have hy:=b9f P P
 have n1:=Ed.b9i.plus P.on P.on
 have n2:=Ed.b9i.minus P.on P.on
 have hon:=P.on
 unfold Ed.onC at hon
 have f0:=dn_f (u:=Ed.mk n.z) hon
 have g0:=dn_g (u:=Ed.mk n.z) hon
 rw [h.x,h.y]at f0 g0
 have ez:Ed.mk (dN n).z=Ed.mk n.z * Ed.mk n.z * (1 - Ed.D * P.x * P.x * P.y * P.y) * (Ed.mk n.z * Ed.mk n.z * (1 + Ed.D * P.x * P.x * P.y * P.y)):=by
  rw [←f0,←g0]
  show Ed.mk ((2 * (n.z * n.z) + n.x * n.x + (PP * PP - n.y * n.y)) * (n.y * n.y + (PP * PP - n.x * n.x)) % PP)=_
  rw [a7n,a4a,a9v,a9v,a9v,a4a,a4a,a4a,a4a,c4t s.x,c4t s.y,mk_2]
 refine⟨?_,?_,?_⟩
 ·rw [ez]
  exact Ed.a2j (Ed.a2j (Ed.a2j h.z h.z) n2) (Ed.a2j (Ed.a2j h.z h.z) n1)
 ·rw [ez,dn_x hx,h.x,h.y,←f0]
  show _=Ed.mk (2 * n.x * n.y * (2 * (n.z * n.z) + n.x * n.x + (PP * PP - n.y * n.y)) % PP)
  rw [a7n,a4a,a4a,a4a,a9v,a9v,a4a,a4a,a4a,c4t s.y,mk_2]
 ·rw [ez,dn_y hy,h.x,h.y,←g0]
  show _=Ed.mk ((n.y * n.y + (PP * PP - n.x * n.x)) * (n.x * n.x + n.y * n.y) % PP)
  rw [a7n,a4a,a9v,a9v,a4a,a4a,c4t s.x]
def apN(n:N3)(x y:Nat):N3:=
 let C:=n.x * x % PP
 let Q:=n.y * y % PP
 let E:=Ed.Dn * C * Q % PP
 ⟨n.z * (n.z * n.z + (PP - E)) * (n.x * y + n.y * x) % PP,n.z * (n.z * n.z + E) * (Q + C) % PP,(n.z * n.z + (PP - E)) * (n.z * n.z + E) % PP⟩
section
variable {D x1 y1 x2 y2 u X Y:Ed.Fq}
theorem an_e:D * (x1 * u * x2) * (y1 * u * y2)=u * u * (D * x1 * x2 * y1 * y2):=by grind
theorem an_m{m:Ed.Fq}:u * u + -(u * u * m)=u * u * (1 - m):=by grind
theorem an_p{m:Ed.Fq}:u * u + u * u * m=u * u * (1 + m):=by grind
theorem an_x{m:Ed.Fq}(hx:X * (1 + m)=x1 * y2 + x2 * y1):X * (u * u * (1 - m) * (u * u * (1 + m)))=u * (u * u * (1 - m)) * (x1 * u * y2 + y1 * u * x2):=by
 have e:X * (u * u * (1 - m) * (u * u * (1 + m)))=X * (1 + m) * (u * u * (1 - m) * (u * u)):=by clear hx;grind
 rw [e,hx]
 clear e hx
 grind
theorem an_y{m:Ed.Fq}(hy:Y * (1 - m)=y1 * y2 + x1 * x2):Y * (u * u * (1 - m) * (u * u * (1 + m)))=u * (u * u * (1 + m)) * (y1 * u * y2 + x1 * u * x2):=by
 have e:Y * (u * u * (1 - m) * (u * u * (1 + m)))=Y * (1 - m) * (u * u * (1 + m) * (u * u)):=by clear hy;grind
 rw [e,hy]
 clear e hy
 grind
end
theorem e1o{a:Nat}(h:a < PP):Ed.mk (PP - a)= - Ed.mk a:=by
 have e:Ed.mk (PP - a) + Ed.mk a=0:=by
  rw [←a9v,Nat.sub_add_cancel (Nat.le_of_lt h)]
  exact Ed.mk_eq.2 (by decide +kernel)
 exact b1x e
theorem RN.a{n:N3}{P Q:Ed.Pt}{x y:Nat}(h:RN n P)(hqx:Q.x=Ed.mk x)(hqy:Q.y=Ed.mk y):RN (apN n x y) (P + Q):=by
 have hx:=c0v P Q
 have hy:=b9f P Q
 have n1:=Ed.b9i.plus P.on Q.on
 have n2:=Ed.b9i.minus P.on Q.on
 have ee:Ed.mk (Ed.Dn * (n.x * x % PP) * (n.y * y % PP) % PP)=Ed.mk n.z * Ed.mk n.z * (Ed.D * P.x * Q.x * P.y * Q.y):=by
  rw [←an_e,h.x,h.y,hqx,hqy,a7n,a4a,a4a,a7n,a7n,a4a,a4a]
  unfold Ed.D
  rfl
 have hl:Ed.Dn * (n.x * x % PP) * (n.y * y % PP) % PP < PP:=Nat.mod_lt _ a3e
 have ez:Ed.mk (apN n x y).z=Ed.mk n.z * Ed.mk n.z * (1 - Ed.D * P.x * Q.x * P.y * Q.y) * (Ed.mk n.z * Ed.mk n.z * (1 + Ed.D * P.x * Q.x * P.y * Q.y)):=by
  show Ed.mk ((n.z * n.z + (PP - Ed.Dn * (n.x * x % PP) * (n.y * y % PP) % PP)) * (n.z * n.z + Ed.Dn * (n.x * x % PP) * (n.y * y % PP) % PP) % PP)=_
  rw [a7n,a4a,a9v,a9v,e1o hl,ee,a4a,an_m,an_p]
 refine⟨?_,?_,?_⟩
 ·rw [ez]
  exact Ed.a2j (Ed.a2j (Ed.a2j h.z h.z) n2) (Ed.a2j (Ed.a2j h.z h.z) n1)
 ·rw [ez,an_x hx,h.x,h.y,hqx,hqy]
  show _=Ed.mk (n.z * (n.z * n.z + (PP - Ed.Dn * (n.x * x % PP) * (n.y * y % PP) % PP)) * (n.x * y + n.y * x) % PP)
  rw [a7n,a4a,a4a,a9v,a9v,e1o hl,ee,a4a,a4a,a4a,an_m,hqx,hqy]
 ·rw [ez,an_y hy,h.x,h.y,hqx,hqy]
  show _=Ed.mk (n.z * (n.z * n.z + Ed.Dn * (n.x * x % PP) * (n.y * y % PP) % PP) * (n.y * y % PP + n.x * x % PP) % PP)
  rw [a7n,a4a,a4a,a9v,a9v,ee,a7n,a7n,a4a,a4a,a4a,an_p,hqx,hqy]
def mN(x y:Nat):Nat→Nat→N3
 | 0,_=>⟨0,1,1⟩
 | f + 1,n=>if n % 2=1 then apN (dN (mN x y f (n / 2))) x y else dN (mN x y f (n / 2))
theorem e3h:RN ⟨0,1,1⟩ Ed.Pt.zero:=⟨a9t,by rw [c0m];show(0:Ed.Fq) * 1=0;grind,by rw [c0c];show(1:Ed.Fq) * 1=1;grind⟩
theorem mN_sm(x y:Nat):∀f n,Sml (mN x y f n)
 | 0,_=>⟨a3e,show 1 < PP by decide +kernel⟩
 | f + 1,n=>by
   unfold mN
   split
   ·exact⟨Nat.mod_lt _ a3e,Nat.mod_lt _ a3e⟩
   ·exact Sml.d
theorem e3o{x y:Nat}{Q:Ed.Pt}(hqx:Q.x=Ed.mk x)(hqy:Q.y=Ed.mk y):∀f n,n < 2 ^ f→RN (mN x y f n) (Ed.Pt.mul n Q)
 | 0,n,h=>by
   obtain rfl:n=0:=by simpa using h
   exact e3h
 | f + 1,n,h=>by
   have ih:=(e3o hqx hqy f (n / 2) (by rw [Nat.pow_succ]at h;omega)).d (mN_sm x y f (n / 2))
   rw [←Ed.Pt.mul_add]at ih
   unfold mN
   split
   ·have:=ih.a hqx hqy
    rw [←Ed.Pt.mul_succ,show n / 2 + n / 2 + 1=n from by omega]at this
    exact this
   ·rwa [show n / 2 + n / 2=n from by omega]at ih
def LL:Nat:=7237005577332262213973186563042994240857116359379907606001950938285454250989
theorem LL_pm:(mN bxN byN 253 LL).x % PP=0∧(mN bxN byN 253 LL).y % PP=(mN bxN byN 253 LL).z % PP:=by decide +kernel
theorem RN.zero{n:N3}{P:Ed.Pt}(h:RN n P)(hx:n.x % PP=0)(hy:n.y % PP=n.z % PP):P=Ed.Pt.zero:=by
 have e1:Ed.mk n.x=0:=Ed.mk_eq.2 (hx.trans (Nat.zero_mod _).symm)
 have e2:Ed.mk n.y=Ed.mk n.z:=Ed.mk_eq.2 hy
 have h1:=h.x
 have h2:=h.y
 have hz:=h.z
 rw [e1]at h1
 rw [e2]at h2
 refine Ed.Pt.ext ?_ ?_
 ·rw [c0m]
  exact(Ed.a3i h1).elim id fun e=>absurd e hz
 ·rw [c0c]
  have:(P.y - 1) * Ed.mk n.z=0:=by
   generalize Ed.mk n.z=z at *
   generalize P.y=y at *
   clear e1 e2 h1 hz h
   grind
  exact(Ed.a3i this).elim a6j fun e=>absurd e hz
theorem b3l:Ed.Pt.mul LL BB=Ed.Pt.zero:=(e3o (Q:=BB) rfl rfl 253 LL (by decide +kernel)).zero LL_pm.1 LL_pm.2
end Go.Proofs.YtdbngnlpafcogaaGreat
namespace Go.Proofs.YtdbngnlpafcogaaGreat
open Go.RowKit Go.Mem Go.Txt
def rdL:Nat→List UInt8→Nat
 | 0,_=>0
 | k + 1,l=>match l with
   | a :: b :: l'=>nib a.toNat * 16 + nib b.toNat + 256 * rdL k l'
   | _=>0
def d8(n:N3):N3:=dN (dN (dN (dN (dN (dN (dN (dN n)))))))
def ckL:Nat→Nat→Nat→List UInt8→Bool
 | 0,_,_,_=>true
 | n + 1,x,y,l=>
   decide (rdL 32 l < PP) && decide (rdL 32 (l.drop 64) < PP) && decide (rdL 32 l * (d8 ⟨x,y,1⟩).z % PP=(d8 ⟨x,y,1⟩).x % PP) && decide (rdL 32 (l.drop 64) * (d8 ⟨x,y,1⟩).z % PP=(d8 ⟨x,y,1⟩).y % PP) && ckL n (rdL 32 l) (rdL 32 (l.drop 64)) (l.drop 128)
def ckS(s:ByteArray):Bool:=decide (rdL 32 s.data.toList=bxN) && decide (rdL 32 (s.data.toList.drop 64)=byN) && ckL 31 bxN byN (s.data.toList.drop 128)
theorem ck_ex:ckS (e3p Tryz.f171)=true:=by kernel_rfl
theorem RN.d8{n:N3}{P:Ed.Pt}(h:RN n P)(s:Sml n):RN (d8 n) (Ed.Pt.mul 256 P):=by
 have:=(((((((h.d s).d Sml.d).d Sml.d).d Sml.d).d Sml.d).d Sml.d).d Sml.d).d Sml.d
 have e:∀m,Ed.Pt.mul m P + Ed.Pt.mul m P=Ed.Pt.mul (2 * m) P:=fun m=>by rw [←Ed.Pt.mul_add,Nat.two_mul]
 have e1:P + P=Ed.Pt.mul 2 P:=by have:=e 1;rwa [Ed.Pt.c7x]at this
 rw [e1,e,e,e,e,e,e,e]at this
 exact this
theorem RN.plain{n:N3}{P:Ed.Pt}{x y:Nat}(h:RN n P)(hx:x * n.z % PP=n.x % PP)(hy:y * n.z % PP=n.y % PP):P.x=Ed.mk x∧P.y=Ed.mk y:=by
 have hz:=h.z
 have c:∀a b z:Ed.Fq,z≠0→a * z=b * z→a=b:=fun a b z h0 e=>by
  have e2:(a - b) * z=0:=by grind
  exact(Ed.a3i e2).elim a6j fun e=>absurd e h0
 exact⟨c _ _ _ hz (h.x.trans ((Ed.mk_eq.2 hx.symm).trans (a4a _ _))),c _ _ _ hz (h.y.trans ((Ed.mk_eq.2 hy.symm).trans (a4a _ _)))⟩
theorem c9n:∀(n x y:Nat) (l:List UInt8) (P:Ed.Pt),ckL n x y l=true→x < PP→y < PP→P.x=Ed.mk x→P.y=Ed.mk y→∀i,i < n→
 rdL 32 (l.drop (128 * i)) < PP∧rdL 32 (l.drop (128 * i + 64)) < PP∧(Ed.Pt.mul (256 ^ (i + 1)) P).x=Ed.mk (rdL 32 (l.drop (128 * i)))∧(Ed.Pt.mul (256 ^ (i + 1)) P).y=Ed.mk (rdL 32 (l.drop (128 * i + 64)))
 | 0,_,_,_,_,_,_,_,_,_,i,hi=>absurd hi (by omega)
 | n + 1,x,y,l,P,h,hx,hy,hPx,hPy,i,hi=>by
   unfold ckL at h
   simp only [Bool.and_eq_true,decide_eq_true_eq]at h
   obtain⟨⟨⟨⟨h1,h2⟩,h3⟩,h4⟩,h5⟩:=h
   have hr:RN ⟨x,y,1⟩ P:=⟨a9t,by rw [hPx];show Ed.mk x * 1=Ed.mk x;grind,by rw [hPy];show Ed.mk y * 1=Ed.mk y;grind⟩
   obtain⟨e1,e2⟩:=(hr.d8 ⟨hx,hy⟩).plain h3 h4
   cases i with
   | zero=>
     rw [Nat.mul_zero,Nat.zero_add,List.drop_zero,Nat.zero_add,Nat.pow_one]
     exact⟨h1,h2,e1,e2⟩
   | succ i=>
     have ih:=c9n n _ _ _ (Ed.Pt.mul 256 P) h5 h1 h2 e1 e2 i (by omega)
     rw [List.drop_drop,List.drop_drop,←Ed.Pt.a6c,show 256 * 256 ^ (i + 1)=256 ^ (i + 1 + 1)from by rw [Nat.pow_succ _ (i + 1),Nat.mul_comm],show 128 + 128 * i=128 * (i + 1)from by omega,show 128 + (128 * i + 64)=128 * (i + 1) + 64 from by omega]at ih
     exact ih
theorem e6r{s:ByteArray}(h:ckS s=true):∀i,i < 32→rdL 32 (s.data.toList.drop (128 * i)) < PP∧rdL 32 (s.data.toList.drop (128 * i + 64)) < PP∧(Ed.Pt.mul (256 ^ i) BB).x=Ed.mk (rdL 32 (s.data.toList.drop (128 * i)))∧(Ed.Pt.mul (256 ^ i) BB).y=Ed.mk (rdL 32 (s.data.toList.drop (128 * i + 64))):=by
 intro i hi
 unfold ckS at h
 simp only [Bool.and_eq_true,decide_eq_true_eq]at h
 obtain⟨⟨h1,h2⟩,h3⟩:=h
 cases i with
 | zero=>
   rw [Nat.mul_zero,Nat.zero_add,List.drop_zero,Nat.pow_zero,Ed.Pt.c7x,h1,h2]
   exact⟨by decide +kernel,by decide +kernel,rfl,rfl⟩
 | succ i=>
   have:=c9n 31 _ _ _ BB h3 (by decide +kernel) (by decide +kernel) rfl rfl i (by omega)
   rw [List.drop_drop,List.drop_drop,show 128 + 128 * i=128 * (i + 1)from by omega,show 128 + (128 * i + 64)=128 * (i + 1) + 64 from by omega]at this
   exact this
theorem c4i{s:ByteArray}(hs:s.size=4096)(j:Nat)(hj:j < 4096):∃a,s.data.toList.drop j=a :: s.data.toList.drop (j + 1)∧a.toNat=stB s j:=by
 have hl:s.data.toList.length=4096:=by rw [Array.length_toList];exact hs
 refine⟨s.data.toList[j]'(by omega),List.drop_eq_getElem_cons (by omega),?_⟩
 have hsz:s.data.size=4096:=hs
 unfold stB
 simp [Array.getD,hsz,hj]
theorem rd_hx{s:ByteArray}(hs:Lad s):∀k m,m + k≤2048→leV ((List.range k).map fun i=>UInt8.ofNat (nv s (m + i)))=rdL k (s.data.toList.drop (2 * m))
 | 0,_,_=>rfl
 | k + 1,m,h=>by
   have ih:=rd_hx hs k (m + 1) (by omega)
   obtain⟨a,ea,va⟩:=c4i hs.size (2 * m) (by omega)
   obtain⟨b,eb,vb⟩:=c4i hs.size (2 * m + 1) (by omega)
   have n1:=c0n (hs.hex (2 * m) (by omega))
   have n2:=c0n (hs.hex (2 * m + 1) (by omega))
   rw [List.range_succ_eq_map,List.map_cons,List.map_map,leV,ea,eb,rdL,va,vb]
   have e:(UInt8.ofNat (nv s (m + 0))).toNat=nib (stB s (2 * m)) * 16 + nib (stB s (2 * m + 1)):=by
    unfold nv
    rw [Nat.add_zero]
    simp
    omega
   rw [e]
   congr 2
   rw [show 2 * m + 1 + 1=2 * (m + 1)from by omega,←ih]
   congr 1
   refine List.map_congr_left fun i _=>?_
   show UInt8.ofNat (nv s (m + (i + 1)))=UInt8.ofNat (nv s (m + 1 + i))
   rw [show m + (i + 1)=m + 1 + i from by omega]
theorem hx_rd{s:ByteArray}(hs:Lad s)(m:Nat)(h:m < 64):leV (hx s m)=rdL 32 (s.data.toList.drop (64 * m)):=by
 unfold hx
 rw [rd_hx hs 32 (32 * m) (by omega),show 2 * (32 * m)=64 * m from by omega]
theorem la_rp{s:ByteArray}(hs:Lad s)(hc:ckS s=true)(i:Nat)(hi:i < 32):Rp (laQ s i) (Ed.Pt.mul (256 ^ i) BB):=by
 obtain⟨h1,h2,h3,h4⟩:=e6r hc i hi
 have e1:=hx_rd hs (2 * i) (by omega)
 have e2:=hx_rd hs (2 * i + 1) (by omega)
 rw [show 64 * (2 * i)=128 * i from by omega]at e1
 rw [show 64 * (2 * i + 1)=128 * i + 64 from by omega]at e2
 rw [←e1]at h1 h3
 rw [←e2]at h2 h4
 exact Rp.af (a3k _) (a3k _) (h3.trans (b3p _ (decide_eq_true h1)).symm) (h4.trans (b3p _ (decide_eq_true h2)).symm)
theorem mul_rp{s:ByteArray}(hs:Lad s)(hc:ckS s=true){p:P4}{P:Ed.Pt}(h:Rq p P){X:Nat}(hX:X < b2r):Rp (mulQ s p X) (Ed.Pt.mul X P):=by
 unfold mulQ
 cases hb:p.same baQ with
 | true=>
   rw [if_pos rfl,d2v c3a h hb]
   exact ba_rp (la_rp hs hc) hX
 | false=>
   rw [if_neg (by simp)]
   exact mu_rp h hX
end Go.Proofs.YtdbngnlpafcogaaGreat
namespace Go.Proofs.YtdbngnlpafcogaaGreat
open Go.RowKit Go.Mem Go.Txt
theorem c5t{X:Nat}(h:X < b2r):X < 2 ^ (8 * 32):=by rw [a8s]at h;exact h
abbrev BsC(b:P4):Prop:=∀W,Calls Tryz.prog 31 #[] W fun e w'=>e= .returned b.v∧Kept [] W w'
theorem base_e:∃b,BsC b∧Rq b BB:=⟨baQ,b3h,c3a.q⟩
theorem hash_e{p:P4}{P:Ed.Pt}(h:Rq p P):PhC p (enc P):=by
 have:=d2d h.ok
 rwa [h.enc]at this
abbrev NgC(p r:P4):Prop:=P1C 52 p r
theorem neg_e{p:P4}{P:Ed.Pt}(h:Rq p P):∃r,NgC p r∧Rq r P.neg:=⟨ngQ p,neg_c h.ok,h.ng.q⟩
theorem mul_e{p:P4}{P:Ed.Pt}(h:Rq p P){X:Nat}(hX:X < b2r):∃r,MuC p X r∧Rq r (Ed.Pt.mul X P):=⟨_,mul_c e0a h.ok X,(mul_rp e0a ck_ex h hX).q⟩
theorem both_e{p:P4}{P:Ed.Pt}(h:Rq p P){X Y:Nat}(hX:X < b2r)(hY:Y < b2r):∃r,BoC p X Y r∧Rq r (Ed.Pt.mul X BB + Ed.Pt.mul Y P):=⟨_,d6h h.ok X Y,(bo_rp c3a.q h hX hY).q⟩
theorem c8r{p:P4}{P:Ed.Pt}(h:Rq p P):∀k,Rq (adN p k) (Ed.Pt.mul (2 ^ k) P)
 | 0=>by rw [Nat.pow_zero,Ed.Pt.c7x];exact h
 | k + 1=>by
   have:=((c8r h k).ad (c8r h k)).q
   rw [←Ed.Pt.mul_add,←Nat.two_mul,Nat.mul_comm,←Nat.pow_succ]at this
   exact this
theorem c3t:enc Ed.Pt.zero=1:=by
 unfold enc
 rw [c0m,c0c]
 decide +kernel
theorem one_lt:1 < b2r:=by decide +kernel
theorem d2x{P:Ed.Pt}:enc P=1↔P=Ed.Pt.zero:=⟨fun h=>c2o (h.trans c3t.symm),fun h=>by rw [h,c3t]⟩
theorem smB_eq{p:P4}{P:Ed.Pt}(h:Rq p P):smB p=decide (enc (Ed.Pt.mul 8 P)=1):=by
 unfold smB
 rw [(c8r h 3).enc,c8w _ _ (c5t (b8t _)) (c5t one_lt)]
abbrev SaC(p:P4)(b:Bool):Prop:=∀W,Calls Tryz.prog 49 #[p.v] W fun e w'=>e= .returned (.bool b)∧Kept [] W w'
theorem e3d{p:P4}{P:Ed.Pt}(h:Rq p P):SaC p (decide (enc (Ed.Pt.mul 8 P)=1)):=by
 have:=fun W=>c7d h.ok W
 rwa [smB_eq h]at this
theorem dec_e(P:Ed.Pt):∃r,DeC (enc P) r 0∧Rq r P:=by
 have:=dec_c (enc P)
 rw [c2q _ (c5e P)]at this
 exact⟨_,this,(e5e P).q⟩
theorem dec_n{X:Nat}(h:b1w X=false):DeC X pz 50:=by
 have:=dec_c X
 rwa [b6f _ h,b5v _ h]at this
end Go.Proofs.YtdbngnlpafcogaaGreat
namespace Go.Proofs.YtdbngnlpafcogaaGreat
open Go.RowKit Go.Mem Go.Txt
theorem c2e{l m:List UInt8}{b:Bool}(h:(l == m)=b)(h1:l.length=32)(h2:m.length=32)(W:World):(Op.equalIn 10000 22 (ab l) (ab m)).run Tryz.prog W= .ok b W:=by
 have:=a2z a1u Tryz.underlying5 (by kernel_rfl) l m h1 h2 W
 rwa [h]at this
theorem b7v{a:Act}{o:Oper}{u:World}{l m:List UInt8}{b:Bool}(x y:Operand){r:TypeId}(ho:o.op= .binOp .eql 22 x y r)(hx:a.eval x=ab l)(hy:a.eval y=ab m)(h:(l == m)=b)(h1:l.length=32)(h2:m.length=32):(execOp a.eval o).run Tryz.prog u= .ok (.value (.bool b)) u:=
 (b4j a1u Tryz.underlying5 (by kernel_rfl) (by kernel_rfl) x y ho hx hy h1 h2).trans (by rw [h])
abbrev MsC(p:P4)(l:List UInt8)(r:P4):Prop:=∀W,Calls Tryz.prog 32 #[p.v,ab l] W fun e w'=>e= .returned r.v∧Kept [] W w'
abbrev HsC(p:P4)(l:List UInt8):Prop:=∀W,Calls Tryz.prog 33 #[p.v] W fun e w'=>e= .returned (ab l)∧Kept [] W w'
abbrev BosC(l:List UInt8)(p:P4)(m:List UInt8)(r:P4):Prop:=∀W,Calls Tryz.prog 51 #[ab l,p.v,ab m] W fun e w'=>e= .returned r.v∧Kept [] W w'
abbrev DsC(l:List UInt8)(r:P4)(z:Int):Prop:=∀W,Calls Tryz.prog 48 #[ab l] W fun e w'=>e= .returned (.tuple #[r.v,.int .i64 z])∧Kept [] W w'
theorem d1n{l:List UInt8}(h:l.length=32):leV l < b2r:=by
 have:=a6f l
 rw [h]at this
 rw [a8s]
 exact this
theorem c3f{l:List UInt8}(h:l.length=32):le (leV l) 32=l:=by
 have:=b2d l
 rwa [h]at this
theorem mul_s{p:P4}{P:Ed.Pt}(h:Rq p P){l:List UInt8}(hl:l.length=32):∃r,MsC p l r∧Rq r (Ed.Pt.mul (leV l) P):=by
 obtain⟨r,c,hr⟩:=mul_e h (d1n hl)
 unfold MuC at c
 rw [c3f hl]at c
 exact⟨r,c,hr⟩
theorem both_s{p:P4}{P:Ed.Pt}(h:Rq p P){l m:List UInt8}(hl:l.length=32)(hm:m.length=32):∃r,BosC l p m r∧Rq r (Ed.Pt.mul (leV l) BB + Ed.Pt.mul (leV m) P):=by
 obtain⟨r,c,hr⟩:=both_e h (d1n hl) (d1n hm)
 unfold BoC at c
 rw [c3f hl,c3f hm]at c
 exact⟨r,c,hr⟩
theorem e1m{p:P4}{P Q:Ed.Pt}(h:Rq p P)(e:P=Q):HsC p (le (enc Q) 32):=by rw [←e];exact hash_e h
theorem dec_s{P Q:Ed.Pt}{l:List UInt8}(hl:l=le (enc Q) 32)(e:Q=P):∃r,DsC l r 0∧Rq r P:=by
 subst e
 obtain⟨r,c,hr⟩:=dec_e Q
 rw [hl]
 exact⟨r,c,hr⟩
theorem b4i(xs:Array Value)(w:World):(callFunc 32 xs).run Tryz.prog w= .ok (.enter 32 xs) w:=enters_of (c:=_) Tryz.func32 (by kernel_rfl) rfl xs w
theorem a8i(xs:Array Value)(w:World):(callFunc 33 xs).run Tryz.prog w= .ok (.enter 33 xs) w:=enters_of (c:=_) Tryz.func33 (by kernel_rfl) rfl xs w
theorem c1r(xs:Array Value)(w:World):(callFunc 52 xs).run Tryz.prog w= .ok (.enter 52 xs) w:=enters_of (c:=_) Tryz.func52 (by kernel_rfl) rfl xs w
theorem bsize{l:List UInt8}(h:l.length=32):(bv l).toArray.size=32:=by simp [h]
end Go.Proofs.YtdbngnlpafcogaaGreat
namespace Go.Proofs.YtdbngnlpafcogaaGreat
open Go.RowKit Go.Mem Go.Txt
def ce(d:Nat→Int):Nat→Int
 | 0=>d 0
 | i + 1=>d (i + 1) + ce d i / 65536
def cr(d:Nat→Int)(i:Nat):Int:=ce d i % 65536
def cq(d:Nat→Int)(i:Nat):Int:=ce d i / 65536
def cst(d:Nat→Int)(k i:Nat):Int:=if i < k then cr d i else if i=k then ce d k else d i
def cy(d:Nat→Int)(i:Nat):Int:=if i=0 then cr d 0 + 38 * cq d 15 else cr d i
def dv(d:Nat→Int):Nat→Int
 | 0=>0
 | n + 1=>dv d n + d n * 65536 ^ n
theorem b0c{d e:Nat→Int}:∀n,(∀i,i < n→d i=e i)→dv d n=dv e n
 | 0,_=>rfl
 | n + 1,h=>by rw [dv,dv,b0c n fun i hi=>h i (by omega),h n (by omega)]
theorem a2w(d:Nat→Int)(i:Nat):0≤cr d i∧cr d i < 65536:=by unfold cr;omega
theorem a9z(d:Nat→Int)(i:Nat):ce d i=cr d i + 65536 * cq d i:=by unfold cr cq;omega
theorem b1d(d:Nat→Int):∀n,dv d (n + 1)=dv (cr d) (n + 1) + cq d n * 65536 ^ (n + 1)
 | 0=>by
   have:=a9z d 0
   simp only [dv,ce]at *
   simp;omega
 | n + 1=>by
   have h:=b1d d n
   have e:=a9z d (n + 1)
   have e2:ce d (n + 1)=d (n + 1) + cq d n:=rfl
   rw [dv,h,show dv (cr d) (n + 1 + 1)=dv (cr d) (n + 1) + cr d (n + 1) * 65536 ^ (n + 1)from rfl,show d (n + 1)=cr d (n + 1) + 65536 * cq d (n + 1) - cq d n from by omega,Int.pow_succ]
   grind
theorem b2n(r:Nat→Int)(h:∀i,0≤r i∧r i < 65536):∀n,0≤dv r n∧dv r n < 65536 ^ n
 | 0=>by simp [dv]
 | n + 1=>by
   have ih:=b2n r h n
   have hr:=h n
   have hp:(0:Int) < 65536 ^ n:=Int.pow_pos (by omega)
   rw [dv,Int.pow_succ]
   generalize (65536:Int) ^ n=B at *
   have h1:0≤r n * B:=Int.mul_nonneg hr.1 (by omega)
   have h2:r n * B≤65535 * B:=Int.mul_le_mul_of_nonneg_right (by omega) (by omega)
   constructor <;> omega
theorem a3y(r:Nat→Int)(n:Nat):∀m,dv r (n + m)=dv r n + 65536 ^ n * dv (fun j=>r (n + j)) m
 | 0=>by simp [dv]
 | m + 1=>by
   rw [show n + (m + 1)=(n + m) + 1 from rfl,dv,a3y r n m,dv,Int.pow_add]
   grind
theorem d6x(r:Nat→Int)(h:∀i,0≤r i∧r i < 65536)(n i:Nat)(hi:i < n):dv r n / 65536 ^ i % 65536=r i:=by
 obtain⟨m,rfl⟩:∃m,n=i + (1 + m):=⟨n - i - 1,by omega⟩
 have hb:=b2n r h i
 have hp:(0:Int) < 65536 ^ i:=Int.pow_pos (by omega)
 have e:dv (fun j=>r (i + j)) (1 + m)=r i + 65536 * dv (fun j=>r (i + (1 + j))) m:=by
  rw [a3y (fun j=>r (i + j)) 1 m]
  simp [dv]
 rw [a3y r i (1 + m),Int.add_mul_ediv_left _ _ (by omega),Int.ediv_eq_zero_of_lt hb.1 hb.2,Int.zero_add,e,Int.add_mul_emod_self_left]
 exact Int.emod_eq_of_lt (h i).1 (h i).2
def B16:Int:=115792089237316195423570985008687907853269984665640564039457584007913129639936
theorem b8s:(65536:Int) ^ 16=B16:=by decide +kernel
theorem d7k(d:Nat→Int):dv (cy d) 16=dv d 16 % B16 + 38 * (dv d 16 / B16):=by
 have h:=b1d d 15
 have hb:=b2n (cr d) (a2w d) 16
 rw [b8s]at h hb
 have hB:(0:Int) < B16:=by decide
 have e1:dv d 16 / B16=cq d 15:=by
  rw [h,Int.add_mul_ediv_right _ _ (by omega),Int.ediv_eq_zero_of_lt hb.1 hb.2,Int.zero_add]
 have e2:dv d 16 % B16=dv (cr d) 16:=by
  rw [h,Int.add_mul_emod_self_right]
  exact Int.emod_eq_of_lt hb.1 hb.2
 rw [e1,e2]
 have hs:=a3y (cy d) 1 15
 have hs2:=a3y (cr d) 1 15
 have e3:dv (fun j=>cy d (1 + j)) 15=dv (fun j=>cr d (1 + j)) 15:=b0c 15 fun i _=>by unfold cy;rw [if_neg (by omega)]
 rw [e3]at hs
 have e4:dv (cy d) 1=cr d 0 + 38 * cq d 15:=by simp [dv,cy]
 have e5:dv (cr d) 1=cr d 0:=by simp [dv]
 rw [show(16:Nat)=1 + 15 from rfl,hs,hs2,e4,e5]
 omega
def Sm(M:Int)(d:Nat→Int):Prop:=∀i,i < 16→-M≤d i∧d i≤M
theorem b7h{d:Nat→Int}(h:Sm 4611686018427387904 d):∀i,i < 16→-4611826755915743232≤ce d i∧ce d i≤4611826755915743232
 | 0,_=>by have:=h 0 (by omega);simp only [ce];omega
 | i + 1,hi=>by
   have h1:=b7h h i (by omega)
   have h2:=h (i + 1) hi
   simp only [ce]
   omega
theorem b0q{d:Nat→Int}(h:Sm 4611686018427387904 d):Sm 2674136093360128 (cy d):=by
 intro i hi
 have hc:=b7h h 15 (by omega)
 have h0:=a2w d 0
 have h1:=a2w d i
 unfold cy cq
 split <;> omega
end Go.Proofs.YtdbngnlpafcogaaGreat
namespace Go.Proofs.YtdbngnlpafcogaaGreat
open Go.RowKit Go.Mem Go.Txt
abbrev nu(d:Nat→Int):Value:=.agg (iv (fam 16 d)).toArray
def zd(_:Nat):Int:=0
theorem a1c:ArrT Tryz.prog 27 2 16:=⟨Tryz.underlying27,by kernel_rfl⟩
theorem a2i:(Tryz.prog.info? 27).map (·.zero)=some (some (nu zd)):=by kernel_rfl
theorem a1j(d:Nat→Int):(iv (fam 16 d)).toArray.all (·.oneCell')=true:=by
 rw [Array.all_eq_true_iff_forall_mem]
 intro v hv
 exact c9z _ v (by simpa using hv)
abbrev Nb(u:World)(g:Nat)(d:Nat→Int):Prop:=Blk u g 27 (iv (fam 16 d)).toArray
theorem Nb.get{u:World}{g:Nat}{d:Nat→Int}(h:Nb u g d)(i:Nat)(hi:i < 16):u.cell? ⟨g,i,none⟩=some (.int .i64 (d i)):=Blk.a7r (v:=fun z:Int=>Value.int .i64 z) h i hi
theorem Nb.set{u:World}{g:Nat}{d:Nat→Int}(h:Nb u g d)(i:Nat)(x:Int):Nb (u.setCell ⟨g,i,none⟩ (.int .i64 x)) g (fun j=>if j=i then x else d j):=Blk.d4c (v:=fun z:Int=>Value.int .i64 z) h i x
theorem Nb.same{u:World}{g:Nat}{d e:Nat→Int}(h:Nb u g d)(he:∀i,i < 16→d i=e i):Nb u g e:=by
 have:=a3z 16 he
 unfold Nb at h ⊢
 rwa [this]at h
def cw(d:Nat→Int)(k:Nat):Nat→Int:=if k=16 then cy d else cst d k
theorem cw_at(d:Nat→Int)(k:Nat)(h:k < 16):cw d k k=ce d k:=by
 unfold cw cst
 rw [if_neg (by omega),if_neg (by omega),if_pos rfl]
theorem c1o(d:Nat→Int)(k:Nat)(h:k < 15):cw d k (k + 1)=d (k + 1):=by
 unfold cw cst
 rw [if_neg (by omega),if_neg (by omega),if_neg (by omega)]
theorem e4g(d:Nat→Int)(i:Nat):cw d 0 i=d i:=by
 unfold cw cst
 rw [if_neg (by omega),if_neg (by omega)]
 split
 ·rename_i h;subst h;rfl
 ·rfl
theorem b7q(d:Nat→Int)(k:Nat)(h0:0 < k)(h:k < 16):cw d k 0=cr d 0:=by
 unfold cw cst
 rw [if_neg (by omega),if_pos h0]
theorem c1s{u:World}{g:Nat}{d:Nat→Int}{k:Nat}{y:Int}(h:Nb u g (cw d k))(hk:k < 15):Nb (((u.setCell ⟨g,k,none⟩ (.int .i64 y)).setCell ⟨g,k,none⟩ (.int .i64 (cr d k))).setCell ⟨g,k + 1,none⟩ (.int .i64 (ce d (k + 1)))) g (cw d (k + 1)):=by
 refine(((Nb.set h k y).set k (cr d k)).set (k + 1) (ce d (k + 1))).same fun i _=>?_
 unfold cw cst
 rw [if_neg (show ¬k=16 by omega),if_neg (show ¬k + 1=16 by omega)]
 by_cases h1:i=k + 1
 ·subst h1;rw [if_pos rfl,if_neg (by omega),if_pos rfl]
 ·rw [if_neg h1]
  by_cases h2:i=k
  ·rw [if_pos h2,if_pos (by omega),h2]
  ·rw [if_neg h2,if_neg h2,if_neg h2]
   by_cases h3:i < k
   ·rw [if_pos h3,if_pos (by omega)]
   ·rw [if_neg h3,if_neg (by omega),if_neg h1]
theorem e6e{u:World}{g:Nat}{d:Nat→Int}{y:Int}(h:Nb u g (cw d 15)):Nb (((u.setCell ⟨g,15,none⟩ (.int .i64 y)).setCell ⟨g,15,none⟩ (.int .i64 (cr d 15))).setCell ⟨g,0,none⟩ (.int .i64 (cr d 0 + 38 * cq d 15))) g (cw d 16):=by
 refine(((Nb.set h 15 y).set 15 (cr d 15)).set 0 (cr d 0 + 38 * cq d 15)).same fun i hi=>?_
 unfold cw cst
 rw [if_neg (show ¬15=16 by omega),if_pos rfl]
 unfold cy
 by_cases h1:i=0
 ·rw [if_pos h1,if_pos h1]
 ·rw [if_neg h1,if_neg h1]
  by_cases h2:i=15
  ·rw [if_pos h2,h2]
  ·rw [if_neg h2,if_neg h2,if_pos (by omega)]
theorem tdiv_neg(e:Int)(h:e < 0):e.tdiv 65536= -((-e) / 65536):=by
 obtain⟨a,rfl⟩:∃a,e= -a:=⟨-e,by omega⟩
 rw [Int.neg_tdiv,Int.tdiv_eq_ediv_of_nonneg (by omega),Int.neg_neg]
theorem tmod_neg(e:Int)(h:e < 0):e.tmod 65536=e + 65536 * ((-e) / 65536):=by
 rw [Int.tmod_def,tdiv_neg e h]
 omega
theorem b8d{u:World}{g:Nat}{d:Nat→Int}{y:Int}{k:Nat}(hk:k=15)(h:Nb u g (cw d k)):Nb (((u.setCell ⟨g,k,none⟩ (.int .i64 y)).setCell ⟨g,k,none⟩ (.int .i64 (cr d k))).setCell ⟨g,0,none⟩ (.int .i64 (cr d 0 + 38 * cq d k))) g (cw d (k + 1)):=by
 subst hk;exact e6e h
set_option maxHeartbeats 4000000 in
theorem a8g(d:Nat→Int)(hd:Sm 4611686018427387904 d)(w:World) :
 Calls Tryz.prog 150 #[nu d] w fun e w'=>e= .returned (nu (cy d))∧Kept [] w w':=by
 have hb:=hjd (b7h hd)
 have hs:=hjd hd
 clear hd
 go_enter Tryz.func150,Tryz.ntmps150
 go_wp2_with (first
  | ((with_reducible refine a0m (o:=⟨some 1,_,_,_,_,_⟩) (v:=nu d) rfl (.tmp 0) rfl rfl ?_);intro g1 w1 m1)
  | ((with_reducible refine a0f (o:=⟨some 2,_,_,_,_,_⟩) rfl rfl a2i ?_);intro g2 w2 m2))
 have H0:=hjd (Nb.same (m1.blk.kept m2.kept (by simp)) (e:=cw d 0) fun i _=>(e4g d i).symm)
 have B2:=hjd m2.blk
 have D:=hjd (show g1≠g2∧w.heap.size≤g1∧w.heap.size≤g2∧Kept [] w w2 from⟨m2.ne m1.blk.lt,m1.le,Nat.le_trans m1.kept.size m2.le,m1.kept.a0i m2.kept⟩)
 clear m1 m2
 go_loopg [3] 16 (fun f i wk=>∃k:Nat,k≤16∧f + k=16∧i= .int .i64 k∧Nb wk g1 (cw d k)∧Kept [g1] w2 wk)
 case atStart=>exact⟨0,Nat.zero_le _,rfl,rfl,H0.out,Kept.refl _ _⟩
 case round=>
  obtain⟨k,hk,hf,rfl,hb1,hkw⟩:=hrel
  have H:=hjd hb1
  have HK:=hjd hkw
  clear hb1 hkw
  by_cases hlt:k < 16
  ·have c0:=H.out.get k hlt
   rw [cw_at d k hlt]at c0
   have z0:=Blk.frozen H.out k
   have hfin:=H.out
   obtain⟨E,hE⟩:∃E,E=ce d k:=⟨_,rfl⟩
   obtain⟨q,hq⟩:∃q,q=cq d k:=⟨_,rfl⟩
   obtain⟨r,hr⟩:∃r,r=cr d k:=⟨_,rfl⟩
   rw [←hE]at c0
   have hEb:=hb.out k hlt
   rw [←hE]at hEb
   have hsp:=a9z d k
   have hrb:=a2w d k
   rw [←hE,←hq,←hr]at hsp
   rw [←hr]at hrb
   obtain⟨e,he⟩:∃e,e=E + 65536:=⟨_,rfl⟩
   obtain⟨c,hc⟩:∃c,c=q + 1:=⟨_,rfl⟩
   have he2:E + 65536=e:=he.symm
   have hr2:e - c * 65536=r:=by omega
   have hcb: -70371329040000≤c - 1∧c - 1≤70371329040000:=by omega
   obtain⟨hcb1,hcb2⟩:=hcb
   obtain⟨hEb1,hEb2⟩:=hEb
   have heb: -4611826755915743232≤e∧e≤4611826755915808768:=by omega
   obtain⟨heb1,heb2⟩:=heb
   have Q:=hjd (And.intro hE (And.intro hq (And.intro hr hc)))
   clear hE hq hr he hc hsp hrb
   have rc:0≤r∧r < 65536:=by have h:=a2w d k;rw [←Q.out.2.2.1]at h;exact h
   by_cases hneg:e < 0
   ·have ht0:=tdiv_neg e hneg
    have hm0:=tmod_neg e hneg
    by_cases hr0:r=0
    ·have ht:e.tdiv 65536=c:=by omega
     have hm:e.tmod 65536=0:=by omega
     clear ht0 hm0 hr0
     obtain⟨rc1,rc2⟩:=rc
     by_cases hk5:k < 15
     ·have n1:=((Nb.set hfin k e).set k r).get (k + 1) (by omega)
      rw [if_neg (by omega),if_neg (by omega),c1o d k hk5]at n1
      have z1:=Blk.frozen ((Nb.set hfin k e).set k r) (k + 1)
      have hD:=hs.out (k + 1) (by omega)
      obtain⟨E1,hE1⟩:∃x,x=ce d (k + 1):=⟨_,rfl⟩
      have hE1b:=hb.out (k + 1) (by omega)
      rw [←hE1]at hE1b
      have hst:d (k + 1) + (c - 1)=E1:=by
       rw [hE1,Q.out.2.2.2,Q.out.2.1]
       show _=d (k + 1) + cq d k
       omega
      have F:=hjd (show Nb (((wr.setCell ⟨g1,k,none⟩ (.int .i64 e)).setCell ⟨g1,k,none⟩ (.int .i64 r)).setCell ⟨g1,k + 1,none⟩ (.int .i64 E1)) g1 (cw d (k + 1))from by
       rw [hE1,Q.out.2.2.1];exact c1s hfin hk5)
      have FK:=hjd (((HK.out.setCell (p:=⟨g1,k,none⟩) (.inl (by simp)) (Value.int .i64 e)).setCell (p:=⟨g1,k,none⟩) (.inl (by simp)) (Value.int .i64 r)).setCell (p:=⟨g1,k + 1,none⟩) (.inl (by simp)) (Value.int .i64 E1))
      generalize d (k + 1)=D1 at *
      obtain⟨hD1,hD2⟩:=hD
      obtain⟨hE1b1,hE1b2⟩:=hE1b
      replace hE1:=hjd hE1
      clear hfin
      go_wp2_with fail
      go_roundg (16 - (k + 1))
      case measure=>omega
      case rel=>exact⟨k + 1,by omega,by omega,by go_num,F.out,FK.out⟩
     ·have hk15:k=15:=by omega
      have n1:=((Nb.set hfin k e).set k r).get 0 (by omega)
      rw [if_neg (by omega),if_neg (by omega),b7q d k (by omega) hlt]at n1
      have z1:=Blk.frozen ((Nb.set hfin k e).set k r) 0
      have hr0b:=a2w d 0
      obtain⟨E1,hE1⟩:∃x,x=cr d 0 + 38 * cq d k:=⟨_,rfl⟩
      have hst:cr d 0 + 38 * (c - 1)=E1:=by
       rw [hE1,Q.out.2.2.2,Q.out.2.1]
       omega
      have hE1b: -9000000000000000≤E1∧E1≤9000000000000000:=by omega
      have F:=hjd (show Nb (((wr.setCell ⟨g1,k,none⟩ (.int .i64 e)).setCell ⟨g1,k,none⟩ (.int .i64 r)).setCell ⟨g1,0,none⟩ (.int .i64 E1)) g1 (cw d (k + 1))from by
       rw [hE1,Q.out.2.2.1];exact b8d hk15 hfin)
      have FK:=hjd (((HK.out.setCell (p:=⟨g1,k,none⟩) (.inl (by simp)) (Value.int .i64 e)).setCell (p:=⟨g1,k,none⟩) (.inl (by simp)) (Value.int .i64 r)).setCell (p:=⟨g1,0,none⟩) (.inl (by simp)) (Value.int .i64 E1))
      generalize cr d 0=D1 at *
      obtain⟨hD1,hD2⟩:=hr0b
      obtain⟨hE1b1,hE1b2⟩:=hE1b
      replace hE1:=hjd hE1
      replace hk15:=hjd hk15
      clear hfin
      go_wp2_with fail
      go_roundg (16 - (k + 1))
      case measure=>omega
      case rel=>exact⟨k + 1,by omega,by omega,by go_num,F.out,FK.out⟩
    ·have ht:e.tdiv 65536=c + 1:=by omega
     have hm:(e.tmod 65536 !=0)=true:=by rw [hm0];simp;omega
     have hc1:c + 1 - 1=c:=by omega
     clear ht0 hm0 hr0
     obtain⟨rc1,rc2⟩:=rc
     by_cases hk5:k < 15
     ·have n1:=((Nb.set hfin k e).set k r).get (k + 1) (by omega)
      rw [if_neg (by omega),if_neg (by omega),c1o d k hk5]at n1
      have z1:=Blk.frozen ((Nb.set hfin k e).set k r) (k + 1)
      have hD:=hs.out (k + 1) (by omega)
      obtain⟨E1,hE1⟩:∃x,x=ce d (k + 1):=⟨_,rfl⟩
      have hE1b:=hb.out (k + 1) (by omega)
      rw [←hE1]at hE1b
      have hst:d (k + 1) + (c - 1)=E1:=by
       rw [hE1,Q.out.2.2.2,Q.out.2.1]
       show _=d (k + 1) + cq d k
       omega
      have F:=hjd (show Nb (((wr.setCell ⟨g1,k,none⟩ (.int .i64 e)).setCell ⟨g1,k,none⟩ (.int .i64 r)).setCell ⟨g1,k + 1,none⟩ (.int .i64 E1)) g1 (cw d (k + 1))from by
       rw [hE1,Q.out.2.2.1];exact c1s hfin hk5)
      have FK:=hjd (((HK.out.setCell (p:=⟨g1,k,none⟩) (.inl (by simp)) (Value.int .i64 e)).setCell (p:=⟨g1,k,none⟩) (.inl (by simp)) (Value.int .i64 r)).setCell (p:=⟨g1,k + 1,none⟩) (.inl (by simp)) (Value.int .i64 E1))
      generalize d (k + 1)=D1 at *
      obtain⟨hD1,hD2⟩:=hD
      obtain⟨hE1b1,hE1b2⟩:=hE1b
      replace hE1:=hjd hE1
      clear hfin
      go_wp2_with fail
      go_roundg (16 - (k + 1))
      case measure=>omega
      case rel=>exact⟨k + 1,by omega,by omega,by go_num,F.out,FK.out⟩
     ·have hk15:k=15:=by omega
      have n1:=((Nb.set hfin k e).set k r).get 0 (by omega)
      rw [if_neg (by omega),if_neg (by omega),b7q d k (by omega) hlt]at n1
      have z1:=Blk.frozen ((Nb.set hfin k e).set k r) 0
      have hr0b:=a2w d 0
      obtain⟨E1,hE1⟩:∃x,x=cr d 0 + 38 * cq d k:=⟨_,rfl⟩
      have hst:cr d 0 + 38 * (c - 1)=E1:=by
       rw [hE1,Q.out.2.2.2,Q.out.2.1]
       omega
      have hE1b: -9000000000000000≤E1∧E1≤9000000000000000:=by omega
      have F:=hjd (show Nb (((wr.setCell ⟨g1,k,none⟩ (.int .i64 e)).setCell ⟨g1,k,none⟩ (.int .i64 r)).setCell ⟨g1,0,none⟩ (.int .i64 E1)) g1 (cw d (k + 1))from by
       rw [hE1,Q.out.2.2.1];exact b8d hk15 hfin)
      have FK:=hjd (((HK.out.setCell (p:=⟨g1,k,none⟩) (.inl (by simp)) (Value.int .i64 e)).setCell (p:=⟨g1,k,none⟩) (.inl (by simp)) (Value.int .i64 r)).setCell (p:=⟨g1,0,none⟩) (.inl (by simp)) (Value.int .i64 E1))
      generalize cr d 0=D1 at *
      obtain⟨hD1,hD2⟩:=hr0b
      obtain⟨hE1b1,hE1b2⟩:=hE1b
      replace hE1:=hjd hE1
      replace hk15:=hjd hk15
      clear hfin
      go_wp2_with fail
      go_roundg (16 - (k + 1))
      case measure=>omega
      case rel=>exact⟨k + 1,by omega,by omega,by go_num,F.out,FK.out⟩
   ·have hdiv:e / 65536=c:=by omega
    clear rc
    by_cases hk5:k < 15
    ·have n1:=((Nb.set hfin k e).set k r).get (k + 1) (by omega)
     rw [if_neg (by omega),if_neg (by omega),c1o d k hk5]at n1
     have z1:=Blk.frozen ((Nb.set hfin k e).set k r) (k + 1)
     have hD:=hs.out (k + 1) (by omega)
     obtain⟨E1,hE1⟩:∃x,x=ce d (k + 1):=⟨_,rfl⟩
     have hE1b:=hb.out (k + 1) (by omega)
     rw [←hE1]at hE1b
     have hst:d (k + 1) + (c - 1)=E1:=by
      rw [hE1,Q.out.2.2.2,Q.out.2.1]
      show _=d (k + 1) + cq d k
      omega
     have F:=hjd (show Nb (((wr.setCell ⟨g1,k,none⟩ (.int .i64 e)).setCell ⟨g1,k,none⟩ (.int .i64 r)).setCell ⟨g1,k + 1,none⟩ (.int .i64 E1)) g1 (cw d (k + 1))from by
      rw [hE1,Q.out.2.2.1];exact c1s hfin hk5)
     have FK:=hjd (((HK.out.setCell (p:=⟨g1,k,none⟩) (.inl (by simp)) (Value.int .i64 e)).setCell (p:=⟨g1,k,none⟩) (.inl (by simp)) (Value.int .i64 r)).setCell (p:=⟨g1,k + 1,none⟩) (.inl (by simp)) (Value.int .i64 E1))
     generalize d (k + 1)=D1 at *
     obtain⟨hD1,hD2⟩:=hD
     obtain⟨hE1b1,hE1b2⟩:=hE1b
     replace hE1:=hjd hE1
     clear hfin
     go_wp2_with fail
     go_roundg (16 - (k + 1))
     case measure=>omega
     case rel=>exact⟨k + 1,by omega,by omega,by go_num,F.out,FK.out⟩
    ·have hk15:k=15:=by omega
     have n1:=((Nb.set hfin k e).set k r).get 0 (by omega)
     rw [if_neg (by omega),if_neg (by omega),b7q d k (by omega) hlt]at n1
     have z1:=Blk.frozen ((Nb.set hfin k e).set k r) 0
     have hr0b:=a2w d 0
     obtain⟨E1,hE1⟩:∃x,x=cr d 0 + 38 * cq d k:=⟨_,rfl⟩
     have hst:cr d 0 + 38 * (c - 1)=E1:=by
      rw [hE1,Q.out.2.2.2,Q.out.2.1]
      omega
     have hE1b: -9000000000000000≤E1∧E1≤9000000000000000:=by omega
     have F:=hjd (show Nb (((wr.setCell ⟨g1,k,none⟩ (.int .i64 e)).setCell ⟨g1,k,none⟩ (.int .i64 r)).setCell ⟨g1,0,none⟩ (.int .i64 E1)) g1 (cw d (k + 1))from by
      rw [hE1,Q.out.2.2.1];exact b8d hk15 hfin)
     have FK:=hjd (((HK.out.setCell (p:=⟨g1,k,none⟩) (.inl (by simp)) (Value.int .i64 e)).setCell (p:=⟨g1,k,none⟩) (.inl (by simp)) (Value.int .i64 r)).setCell (p:=⟨g1,0,none⟩) (.inl (by simp)) (Value.int .i64 E1))
     generalize cr d 0=D1 at *
     obtain⟨hD1,hD2⟩:=hr0b
     obtain⟨hE1b1,hE1b2⟩:=hE1b
     replace hE1:=hjd hE1
     replace hk15:=hjd hk15
     clear hfin
     go_wp2_with fail
     go_roundg (16 - (k + 1))
     case measure=>omega
     case rel=>exact⟨k + 1,by omega,by omega,by go_num,F.out,FK.out⟩
  ·obtain rfl:k=16:=by omega
   have H1:=hjd (show Nb wr g1 (cy d)from H.out)
   go_wp2_with (first
    | (with_reducible refine a0a (o:=⟨some 55,_,_,_,_,_⟩) a1c.row rfl (.tmp 1) rfl rfl H1.out rfl ?_)
    | ((with_reducible refine a0b (o:=⟨none,.store 27 (.tmp 2) (.tmp 55),_,_,_,_⟩) a1c.row rfl (.tmp 2) (.tmp 55) rfl rfl rfl (B2.out.kept HK.out (by have:=D.out.1;simpa using Ne.symm this)) rfl rfl (a1j _) ?_);intro v2 b2 k2))
   exact a0y a1c.row rfl rfl b2 rfl rfl ⟨rfl,(D.out.2.2.2.a0n HK.out D.out.2.1).a0n k2 D.out.2.2.1⟩
end Go.Proofs.YtdbngnlpafcogaaGreat
namespace Go.Proofs.YtdbngnlpafcogaaGreat
open Go.RowKit Go.Mem Go.Txt
def Dg(t:Nat→Int):Prop:=∀i,i < 16→0≤t i∧t i < 65536
def PZ:Int:=57896044618658097711785492504343953926634992332820282019728792003956564819949
theorem b8m:PZ=(PP:Int):=by decide +kernel
def pd(i:Nat):Int:=if i=0 then 65517 else if i=15 then 32767 else 65535
def mn(t:Nat→Int)(i:Nat):Int:=t i - pd i
theorem c6l(i:Nat):32767≤pd i∧pd i≤65535:=by unfold pd;split <;> (try split) <;> omega
theorem e1l(a b:Nat→Int):∀n,dv (fun i=>a i - b i) n=dv a n - dv b n
 | 0=>rfl
 | n + 1=>by rw [dv,dv,dv,e1l a b n];grind
theorem dv_pd:dv pd 16=PZ:=by decide +kernel
theorem dv_mn(t:Nat→Int):dv (mn t) 16=dv t 16 - PZ:=by rw [←dv_pd,←e1l];rfl
theorem dg_dv{t:Nat→Int}(h:Dg t):0≤dv t 16∧dv t 16 < B16:=by
 have e:dv t 16=dv (fun i=>if i < 16 then t i else 0) 16:=b0c 16 fun i hi=>(if_pos hi).symm
 rw [e,←b8s]
 refine b2n _ (fun i=>?_) 16
 split
 ·rename_i hi;exact h i hi
 ·omega
theorem d8a{t:Nat→Int}(h:Dg t)(i:Nat)(hi:i < 16):dv t 16 / 65536 ^ i % 65536=t i:=by
 have e:dv t 16=dv (fun i=>if i < 16 then t i else 0) 16:=b0c 16 fun i hi=>(if_pos hi).symm
 rw [e]
 have:=d6x (fun i=>if i < 16 then t i else 0) (fun i=>by
  split
  ·rename_i hi;exact h i hi
  ·omega) 16 i hi
 rw [this,if_pos hi]
theorem e5s{t:Nat→Int}(h:Dg t):∀i,i < 16→-65536≤ce (mn t) i∧ce (mn t) i≤32768
 | 0,_=>by have:=h 0 (by omega);show -65536≤t 0 - 65517∧t 0 - 65517≤32768;omega
 | i + 1,hi=>by
   have h1:=e5s h i (by omega)
   have h2:=h (i + 1) hi
   have h3:=c6l (i + 1)
   show -65536≤t (i + 1) - pd (i + 1) + ce (mn t) i / 65536∧t (i + 1) - pd (i + 1) + ce (mn t) i / 65536≤32768
   omega
def B15:Int:=1766847064778384329583297500742918515827483896875618958121606201292619776
theorem e1t:(65536:Int) ^ 15=B15:=by decide +kernel
theorem e1s(d:Nat→Int):dv (cst d 15) 16=dv d 16:=by
 have h:=b1d d 14
 have e:dv (cst d 15) 15=dv (cr d) 15:=b0c 15 fun i hi=>by unfold cst;rw [if_pos hi]
 have e2:cst d 15 15=ce d 15:=by unfold cst;rw [if_neg (by omega),if_pos rfl]
 have e3:ce d 15=d 15 + cq d 14:=rfl
 rw [show dv (cst d 15) 16=dv (cst d 15) 15 + cst d 15 15 * 65536 ^ 15 from rfl,e,e2,show dv d 16=dv d 15 + d 15 * 65536 ^ 15 from rfl,h,e3]
 grind
theorem e1v(d:Nat→Int):0≤ce d 15↔0≤dv d 16:=by
 have h:=e1s d
 have e:dv (cst d 15) 15=dv (cr d) 15:=b0c 15 fun i hi=>by unfold cst;rw [if_pos hi]
 have e2:cst d 15 15=ce d 15:=by unfold cst;rw [if_neg (by omega),if_pos rfl]
 have hb:=b2n (cr d) (a2w d) 15
 rw [show dv (cst d 15) 16=dv (cst d 15) 15 + cst d 15 15 * 65536 ^ 15 from rfl,e,e2]at h
 rw [e1t]at h hb
 unfold B15 at h hb
 omega
def lsN(t:Nat→Int):Nat→Int:=if 0≤ce (mn t) 15 then cst (mn t) 15 else t
theorem d2j{t:Nat→Int}(h:Dg t):Dg (lsN t):=by
 unfold lsN
 split
 ·rename_i hc
  intro i hi
  unfold cst
  have h1:=a2w (mn t) i
  have h2:=e5s h 15 (by omega)
  split
  ·exact h1
  ·split
   ·omega
   ·omega
 ·exact h
theorem c8u{t:Nat→Int}:dv (lsN t) 16=if PZ≤dv t 16 then dv t 16 - PZ else dv t 16:=by
 have h:=e1v (mn t)
 rw [dv_mn]at h
 unfold lsN
 by_cases hc:0≤ce (mn t) 15
 ·rw [if_pos hc,e1s,dv_mn,if_pos (by have:=h.1 hc;omega)]
 ·rw [if_neg hc,if_neg (by have:=mt h.2 hc;omega)]
def c3N(d:Nat→Int):Nat→Int:=cy (cy (cy d))
def e7j(V:Int):Int:=V % B16 + 38 * (V / B16)
theorem e0r:B16=2 * PZ + 38:=by decide +kernel
theorem b2v(V:Int):e7j V % PZ=V % PZ:=by
 unfold e7j
 have h:=Int.emod_add_mul_ediv V B16
 have e:V % B16 + 38 * (V / B16)=V + PZ * (-(2 * (V / B16))):=by
  rw [e0r]at h ⊢
  generalize V / (2 * PZ + 38)=q at *
  generalize V % (2 * PZ + 38)=r at *
  grind
 rw [e,Int.add_mul_emod_self_left]
theorem c4r{d:Nat→Int}(h:Sm 2674136093360128 d)(h2:∀i,0 < i→i < 16→0≤d i∧d i < 65536): -2674136093360128≤dv d 16∧dv d 16 < B16 + 2674136093360128:=by
 have h0:=h 0 (by omega)
 have e:=a3y d 1 15
 have hb:=b2n (fun j=>if j < 15 then d (1 + j)else 0) (fun i=>by
  split
  ·exact h2 (1 + i) (by omega) (by omega)
  ·omega) 15
 have e2:dv (fun j=>d (1 + j)) 15=dv (fun j=>if j < 15 then d (1 + j)else 0) 15:=b0c 15 fun i hi=>(if_pos hi).symm
 rw [show(1 + 15:Nat)=16 from rfl,e2,show dv d 1=d 0 from by simp [dv]]at e
 rw [e1t]at hb
 unfold B15 at hb
 unfold B16
 omega
theorem cy_dg(d:Nat→Int)(i:Nat)(h:0 < i):0≤cy d i∧cy d i < 65536:=by
 unfold cy
 rw [if_neg (by omega)]
 exact a2w d i
theorem c5z{d:Nat→Int}(h:Sm 4611686018427387904 d):Dg (c3N d)∧dv (c3N d) 16 % PZ=dv d 16 % PZ∧0≤dv (c3N d) 16∧dv (c3N d) 16 < B16:=by
 have hv:=c4r (b0q h) (fun i hi _=>cy_dg d i hi)
 have e1:=d7k d
 have e2:=d7k (cy d)
 have e3:=d7k (cy (cy d))
 have hr:0≤dv (cy (cy d)) 16∧dv (cy (cy d)) 16 < B16:=by
  rw [e2]
  generalize dv (cy d) 16=v at *
  unfold B16 at *
  omega
 have hq:cq (cy (cy d)) 15=0:=by
  have hc:dv (cy (cy d)) 16=dv (cr (cy (cy d))) 16 + cq (cy (cy d)) 15 * 65536 ^ 16:=b1d (cy (cy d)) 15
  have hb:=b2n (cr (cy (cy d))) (a2w _) 16
  rw [b8s]at hb hc
  clear e1 e2 e3 hv
  unfold B16 at *
  omega
 have hdg:Dg (c3N d):=fun i _=>by
  have hb:=a2w (cy (cy d)) i
  unfold c3N
  rw [show cy (cy (cy d)) i=if i=0 then cr (cy (cy d)) 0 + 38 * cq (cy (cy d)) 15 else cr (cy (cy d)) i from rfl,hq]
  by_cases hi:i=0
  ·subst hi;rw [if_pos rfl];omega
  ·rw [if_neg hi];exact hb
 refine⟨hdg,?_,(dg_dv hdg).1,(dg_dv hdg).2⟩
 unfold c3N
 rw [e3,←e7j,b2v,e2,←e7j,b2v,e1,←e7j,b2v]
def pkN(d:Nat→Int):Nat→Int:=lsN (lsN (c3N d))
theorem d7i{d:Nat→Int}(h:Sm 4611686018427387904 d):Dg (pkN d)∧dv (pkN d) 16=dv d 16 % PZ:=by
 obtain⟨h1,h2,h3,h4⟩:=c5z h
 refine⟨d2j (d2j h1),?_⟩
 unfold pkN
 rw [c8u,c8u,←h2]
 generalize dv (c3N d) 16=V at *
 have:PZ=57896044618658097711785492504343953926634992332820282019728792003956564819949:=rfl
 unfold B16 at h4
 rw [this]
 split
 ·split <;> omega
 ·omega
def pkB(t:Nat→Int)(i:Nat):UInt8:=UInt8.ofNat (if i % 2=0 then(t (i / 2) % 256).toNat else(t (i / 2) / 256).toNat)
theorem pow16(i:Nat):(65536:Int) ^ i=((2 ^ (16 * i):Nat):Int):=by
 rw [Nat.pow_mul]
 simp
theorem pkB_le{t:Nat→Int}(h:Dg t)(X:Nat)(hX:dv t 16=(X:Int)):fam 32 (pkB t)=le X 32:=by
 unfold le fam
 apply List.map_congr_left
 intro i hi
 have hi:i < 32:=by simpa using hi
 have hd:=d8a h (i / 2) (by omega)
 rw [hX,pow16]at hd
 unfold pkB
 congr 1
 have hn:t (i / 2)=((X / 2 ^ (16 * (i / 2)) % 65536:Nat):Int):=by
  rw [←hd];simp
 rw [hn]
 by_cases h2:i % 2=0
 ·rw [if_pos h2,show 16 * (i / 2)=8 * i from by omega]
  generalize X / 2 ^ (8 * i)=y
  omega
 ·rw [if_neg h2,show 8 * i=16 * (i / 2) + 8 from by omega,Nat.pow_add,←Nat.div_div_eq_div_mul]
  generalize X / 2 ^ (16 * (i / 2))=y
  omega
end Go.Proofs.YtdbngnlpafcogaaGreat
namespace Go.Proofs.YtdbngnlpafcogaaGreat
open Go.RowKit Go.Mem Go.Txt
def lsk(t:Nat→Int):Nat→Nat→Int
 | 0=>t
 | k + 1=>lsN (lsk t k)
theorem d9n{t:Nat→Int}(h:Dg t):∀k,Dg (lsk t k)
 | 0=>h
 | k + 1=>d2j (d9n h k)
def mA(t:Nat→Int)(k i:Nat):Int:=if i=0 then t 0 - 65517 else if i < k then t i - 65535 else 0
theorem d5i{u:World}{g:Nat}{t:Nat→Int}(h:Nb u g zd):Nb (u.setCell ⟨g,0,none⟩ (.int .i64 (t 0 - 65517))) g (mA t 1):=(h.set 0 _).same fun i _=>by
 unfold mA zd
 by_cases h0:i=0
 ·rw [if_pos h0,if_pos h0]
 ·rw [if_neg h0,if_neg h0,if_neg (by omega)]
theorem e2j{u:World}{g:Nat}{t:Nat→Int}{k:Nat}(hk:0 < k)(h:Nb u g (mA t k)):Nb (u.setCell ⟨g,k,none⟩ (.int .i64 (t k - 65535))) g (mA t (k + 1)):=(h.set k _).same fun i _=>by
 unfold mA
 by_cases h1:i=k
 ·rw [if_pos h1,if_neg (by omega),if_pos (by omega),h1]
 ·rw [if_neg h1]
  by_cases h0:i=0
  ·rw [if_pos h0,if_pos h0]
  ·rw [if_neg h0,if_neg h0]
   by_cases h2:i < k
   ·rw [if_pos h2,if_pos (by omega)]
   ·rw [if_neg h2,if_neg (by omega)]
theorem e5z{u:World}{g:Nat}{t:Nat→Int}(h:Nb u g (mA t 15)):Nb (u.setCell ⟨g,15,none⟩ (.int .i64 (t 15 - 32767))) g (cst (mn t) 0):=(h.set 15 _).same fun i hi=>by
 unfold mA cst
 rw [if_neg (show ¬i < 0 by omega)]
 by_cases h1:i=15
 ·rw [if_pos h1,if_neg (by omega),h1];rfl
 ·rw [if_neg h1]
  by_cases h0:i=0
  ·rw [if_pos h0,if_pos h0];rfl
  ·rw [if_neg h0,if_neg h0,if_pos (by omega)]
   unfold mn pd
   rw [if_neg h0,if_neg h1]
theorem d9g(d:Nat→Int)(k:Nat):cst d k k=ce d k:=by unfold cst;rw [if_neg (by omega),if_pos rfl]
theorem d6p(d:Nat→Int)(k:Nat):cst d k (k + 1)=d (k + 1):=by unfold cst;rw [if_neg (by omega),if_neg (by omega)]
theorem e2a{u:World}{g:Nat}{d:Nat→Int}{k:Nat}(h:Nb u g (cst d k)):Nb ((u.setCell ⟨g,k,none⟩ (.int .i64 (cr d k))).setCell ⟨g,k + 1,none⟩ (.int .i64 (ce d (k + 1)))) g (cst d (k + 1)):=((h.set k (cr d k)).set (k + 1) (ce d (k + 1))).same fun i _=>by
 unfold cst
 by_cases h1:i=k + 1
 ·rw [if_pos h1,if_neg (by omega),if_pos h1]
 ·rw [if_neg h1,if_neg h1]
  by_cases h2:i=k
  ·rw [if_pos h2,if_pos (by omega),h2]
  ·rw [if_neg h2]
   by_cases h3:i < k
   ·rw [if_pos h3,if_pos (by omega)]
   ·rw [if_neg h3,if_neg h2,if_neg (by omega)]
theorem e4n{d:Nat→Int}{k:Nat}(h0:cq d k=0)(i:Nat):cst d k i=cst d (k + 1) i:=by
 have hs:=a9z d k
 have hn:ce d (k + 1)=d (k + 1) + cq d k:=rfl
 unfold cst
 by_cases h1:i < k
 ·rw [if_pos h1,if_pos (by omega)]
 ·rw [if_neg h1]
  by_cases h2:i=k
  ·rw [if_pos h2,if_pos (by omega),h2];omega
  ·rw [if_neg h2,if_neg (by omega)]
   by_cases h3:i=k + 1
   ·rw [if_pos h3,hn,h0,h3];omega
   ·rw [if_neg h3]
theorem d8z{t:Nat→Int}(h:Dg t)(i:Nat)(hi:i < 16): -65536≤mn t i∧mn t i≤65535:=by
 have h1:=h i hi
 have h2:=c6l i
 unfold mn
 omega
theorem d7r(t:Nat→Int)(k:Nat)(_:0≤t k∧t k < 65536):(((pkB t (2 * k)).toNat:Nat):Int)=t k % 256:=by
 unfold pkB
 rw [if_pos (by omega),show 2 * k / 2=k from by omega,UInt8.toNat_ofNat']
 omega
theorem e6q(t:Nat→Int)(k:Nat)(h:0≤t k∧t k < 65536):(((pkB t (2 * k + 1)).toNat:Nat):Int)=t k / 256:=by
 unfold pkB
 rw [if_neg (by omega),show(2 * k + 1) / 2=k from by omega,UInt8.toNat_ofNat']
 omega
set_option maxHeartbeats 4000000 in
theorem d9b(d:Nat→Int)(hd:Sm 4611686018427387904 d)(w:World) :
 Calls Tryz.prog 107 #[nu d] w fun e w'=>e= .returned (ab (fam 32 (pkB (pkN d))))∧Kept [] w w':=by
 have s1:=b0q hd
 have s2:=b0q (d:=cy d) (fun i hi=>by have:=s1 i hi;omega)
 have c1:=hjd (a8g d hd)
 have c2:=hjd (a8g (cy d) (fun i hi=>by have:=s1 i hi;omega))
 have c3:=hjd (a8g (cy (cy d)) (fun i hi=>by have:=s2 i hi;omega))
 have hdg:=hjd (c5z hd).1
 rw [show pkN d=lsk (c3N d) 2 from rfl]
 rw [show cy (cy (cy d))=c3N d from rfl]at c3
 generalize c3N d=t0 at *
 clear hd s1 s2
 go_enter Tryz.func107,Tryz.ntmps107
 go_wp2_with (first
  | ((with_reducible refine a0m (o:=⟨some 1,_,_,_,_,_⟩) (v:=nu d) rfl (.tmp 0) rfl rfl ?_);intro g1 w1 m1)
  | ((with_reducible refine a0f (o:=⟨some 2,_,_,_,_,_⟩) rfl rfl a3h ?_);intro g2 w2 m2)
  | (with_reducible refine a0a (o:=⟨some 10,_,_,_,_,_⟩) a1c.row rfl (.tmp 1) rfl rfl (m1.blk.kept m2.kept (by simp)) rfl ?_)
  | (go_at_call 150;(with_reducible refine(c1.out _).mono ?_);rintro e x1 ⟨rfl,kk1⟩)
  | (go_at_call 150;(with_reducible refine(c2.out _).mono ?_);rintro e x2 ⟨rfl,kk2⟩)
  | (go_at_call 150;(with_reducible refine(c3.out _).mono ?_);rintro e x3 ⟨rfl,kk3⟩)
  | ((with_reducible refine a0f (o:=⟨some 3,_,_,_,_,_⟩) rfl rfl a2i ?_);intro g3 w3 m3)
  | ((with_reducible refine a0b (o:=⟨none,.store 27 (.tmp 3) (.tmp 13),_,_,_,_⟩) a1c.row rfl (.tmp 3) (.tmp 13) rfl rfl rfl m3.blk rfl rfl (a1j _) ?_);intro w8 b8 k8))
 have K3:=((((m1.kept.a0i m2.kept).a0i kk1).a0i kk2).a0i kk3)
 have B2:=(((m2.blk.kept kk1 (by simp)).kept kk2 (by simp)).kept kk3 (by simp))
 have D:=hjd (show w.heap.size≤g2∧w.heap.size≤g3∧g2≠g3∧g2 < w8.heap.size from⟨Nat.le_trans m1.kept.size m2.le,Nat.le_trans K3.size m3.le,m3.ne B2.lt,((B2.kept m3.kept (by simp)).kept k8 (by simpa using m3.ne B2.lt)).lt⟩)
 replace B2:=hjd ((B2.kept m3.kept (by simp)).kept k8 (by simpa using m3.ne B2.lt))
 have K:=hjd ((K3.a0i m3.kept).a0n k8 D.out.2.1)
 have H3:=hjd (show Nb w8 g3 t0 from b8)
 clear m1 m2 m3 kk1 kk2 kk3 K3 b8 k8 c1 c2 c3
 go_loopg [4] 2 (fun f i wk=>∃k:Nat,k≤2∧f + k=2∧i= .int .i64 k∧Nb wk g3 (lsk t0 k)∧Kept [g3] w8 wk)
 case atStart=>exact⟨0,Nat.zero_le _,rfl,rfl,H3.out,Kept.refl _ _⟩
 case round=>
  obtain⟨k,hk,hf,rfl,hb,hkw⟩:=hrel
  have dg:=hjd (d9n hdg.out k)
  have H:=hjd hb
  have HK:=hjd hkw
  clear hb hkw
  by_cases hlt:k < 2
  ·have hnx:lsk t0 (k + 1)=lsN (lsk t0 k):=rfl
   generalize lsk t0 k=t at *
   replace hnx:=hjd hnx
   have b0:=dg.out 0 (by omega)
   obtain⟨T0,hT0⟩:∃x,x=t 0:=⟨_,rfl⟩
   rw [←hT0]at b0
   obtain⟨b01,b02⟩:=b0
   replace hT0:=hjd hT0
   go_wp2_with ((with_reducible refine a0f (o:=⟨some 5,_,_,_,_,_⟩) rfl rfl a2i ?_);intro g5 w9 m5;have H5:=hjd (H.out.kept m5.kept (by simp));have c0:=Nb.get H5.out 0 (by omega);rw [←hT0.out]at c0;have z0:=Blk.frozen m5.blk 0;have e0:=Nb.get (d:=zd) m5.blk 0 (by omega))
   have A0:=hjd (show Nb (w9.setCell ⟨g5,0,none⟩ (.int .i64 (T0 - 65517))) g5 (mA t 1)from by rw [hT0.out];exact d5i m5.blk)
   have AK:=hjd (show Kept [g5] w9 (w9.setCell ⟨g5,0,none⟩ (.int .i64 (T0 - 65517)))from(Kept.refl [g5] w9).setCell (.inl (by simp)) _)
   have D5:=hjd (show g3≠g5∧wr.heap.size≤g5∧Kept [] wr w9 from⟨m5.ne H.out.lt,m5.le,m5.kept⟩)
   clear m5 c0 z0 e0 b01 b02
   generalize w9.setCell ⟨g5,0,none⟩ (.int .i64 (T0 - 65517))=wa at *
   go_loopg [6] 14 (fun f i wk=>∃j:Nat,j≤14∧f + j=14∧i= .int .i64 ((j:Int) + 1)∧Nb wk g5 (mA t (j + 1))∧Kept [g5] w9 wk)
   case atStart=>exact⟨0,Nat.zero_le _,rfl,rfl,A0.out,AK.out⟩
   case round=>
    obtain⟨j,hj,hf2,rfl,hb,hkw⟩:=hrel
    have HA:=hjd hb
    have HAK:=hjd hkw
    clear hb hkw
    by_cases hlt2:j < 14
    ·have cj:=Nb.get (d:=t) (H5.out.kept HAK.out (by simpa using D5.out.1)) (j + 1) (by omega)
     have zj:=Blk.frozen HA.out (j + 1)
     have ej:=HA.out.get (j + 1) (by omega)
     have bj:=dg.out (j + 1) (by omega)
     have F:=hjd (e2j (by omega) HA.out)
     have FK:=hjd (HAK.out.setCell (p:=⟨g5,j + 1,none⟩) (.inl (by simp)) (Value.int .i64 (t (j + 1) - 65535)))
     generalize t (j + 1)=T1 at *
     obtain⟨bj1,bj2⟩:=bj
     go_wp2_with fail
     go_roundg (14 - (j + 1))
     case measure=>omega
     case rel=>exact⟨j + 1,by omega,by omega,by go_num,F.out,FK.out⟩
    ·obtain rfl:j=14:=by omega
     have cj:=Nb.get (d:=t) (H5.out.kept HAK.out (by simpa using D5.out.1)) 15 (by omega)
     have zj:=Blk.frozen HA.out 15
     have ej:=HA.out.get 15 (by omega)
     have bj:=dg.out 15 (by omega)
     have F:=hjd (e5z HA.out)
     have FK:=hjd (HAK.out.setCell (p:=⟨g5,15,none⟩) (.inl (by simp)) (Value.int .i64 (t 15 - 32767)))
     generalize t 15=T1 at *
     obtain⟨bj1,bj2⟩:=bj
     go_wp2_with fail
     clear zj cj ej bj1 bj2 HA HAK
     obtain⟨wb,hwb⟩:∃x:World,x=wr.setCell ⟨g5,15,none⟩ (.int .i64 (T1 - 32767)):=⟨_,rfl⟩
     rw [←hwb]at F FK ⊢
     clear hwb
     have HC:=hjd F.out
     have HCK:=hjd FK.out
     clear F FK
     go_loopg [7] 15 (fun f i wk=>∃j:Nat,j≤15∧f + j=15∧i= .int .i64 (j:Int)∧Nb wk g5 (cst (mn t) j)∧Kept [g5] w9 wk)
     case atStart=>exact⟨0,Nat.zero_le _,rfl,rfl,HC.out,HCK.out⟩
     case round=>
      obtain⟨j,hj,hf3,rfl,hb,hkw⟩:=hrel
      have HB:=hjd hb
      have HBK:=hjd hkw
      clear hb hkw
      by_cases hlt3:j < 15
      ·have cj:=HB.out.get j (by omega)
       rw [d9g]at cj
       have zj:=Blk.frozen HB.out j
       have bj:=e5s dg.out j (by omega)
       have hsp:=a9z (mn t) j
       have hrb:=a2w (mn t) j
       by_cases hn:ce (mn t) j < 0
       ·have n1:=(HB.out.set j (cr (mn t) j)).get (j + 1) (by omega)
        rw [if_neg (by omega),d6p]at n1
        have z1:=Blk.frozen (HB.out.set j (cr (mn t) j)) (j + 1)
        have bn:=d8z dg.out (j + 1) (by omega)
        have e1:ce (mn t) j + 65536=cr (mn t) j:=by omega
        have e2:mn t (j + 1) - 1=ce (mn t) (j + 1):=by
         show _=mn t (j + 1) + cq (mn t) j
         omega
        have F:=hjd (e2a HB.out)
        have FK:=hjd ((HBK.out.setCell (p:=⟨g5,j,none⟩) (.inl (by simp)) (Value.int .i64 (cr (mn t) j))).setCell (p:=⟨g5,j + 1,none⟩) (.inl (by simp)) (Value.int .i64 (ce (mn t) (j + 1))))
        clear hsp
        generalize ce (mn t) j=E0 at *
        generalize cr (mn t) j=R0 at *
        generalize ce (mn t) (j + 1)=E1 at *
        generalize mn t (j + 1)=M1 at *
        obtain⟨bj1,bj2⟩:=bj
        obtain⟨bn1,bn2⟩:=bn
        obtain⟨hr1,hr2⟩:=hrb
        go_wp2_with fail
        go_roundg (15 - (j + 1))
        case measure=>omega
        case rel=>exact⟨j + 1,by omega,by omega,by go_num,F.out,FK.out⟩
       ·have F:=hjd (HB.out.same fun i _=>e4n (show cq (mn t) j=0 by omega) i)
        clear hsp hrb
        generalize ce (mn t) j=E0 at *
        obtain⟨bj1,bj2⟩:=bj
        go_wp2_with fail
        go_roundg (15 - (j + 1))
        case measure=>omega
        case rel=>exact⟨j + 1,by omega,by omega,by go_num,F.out,HBK.out⟩
      ·obtain rfl:j=15:=by omega
       have cj:=HB.out.get 15 (by omega)
       rw [d9g]at cj
       have H3b:=hjd (show Nb wr g3 t from H5.out.kept HBK.out (by simpa using D5.out.1))
       have KK:=hjd ((HK.out.a0i D5.out.2.2).a0n HBK.out (Nat.le_trans HK.out.size D5.out.2.1))
       clear HBK
       by_cases hp:0≤ce (mn t) 15
       ·have hls:lsk t0 (k + 1)=cst (mn t) 15:=by rw [hnx.out];exact if_pos hp
        replace hls:=hjd hls
        generalize ce (mn t) 15=E0 at *
        go_wp2_with (first
         | (with_reducible refine a0a (o:=⟨some 58,_,_,_,_,_⟩) a1c.row rfl (.tmp 5) rfl rfl HB.out rfl ?_)
         | ((with_reducible refine a0b (o:=⟨none,.store 27 (.tmp 3) (.tmp 58),_,_,_,_⟩) a1c.row rfl (.tmp 3) (.tmp 58) rfl rfl rfl H3b.out rfl rfl (a1j _) ?_);intro v5 b5 k5))
        go_roundg (2 - (k + 1))
        case measure=>omega
        case rel=>exact⟨k + 1,by omega,by omega,by go_num,by rw [hls.out];exact b5,KK.out.trans k5 (fun _ _ h=>h) (fun _ _ h=>h)⟩
       ·have hls:lsk t0 (k + 1)=t:=by rw [hnx.out];exact if_neg hp
        replace hls:=hjd hls
        generalize ce (mn t) 15=E0 at *
        go_wp2_with fail
        go_roundg (2 - (k + 1))
        case measure=>omega
        case rel=>exact⟨k + 1,by omega,by omega,by go_num,by rw [hls.out];exact H3b.out,KK.out⟩
  ·obtain rfl:k=2:=by omega
   obtain⟨t,ht⟩:∃t,t=lsk t0 2:=⟨_,rfl⟩
   rw [←ht]at H dg
   replace ht:=hjd ht
   clear hdg H3 hlt hk hf
   go_wp2_with ((with_reducible refine a0f (o:=⟨some 8,_,_,_,_,_⟩) rfl rfl a3h ?_);intro g8 w9 m8)
   have T:=hjd (H.out.kept m8.kept (by simp))
   have A0:=hjd (show Blk w9 g8 22 (bv (fam 32 (mix (fun _=>(0:UInt8)) (pkB t) (2 * 0)))).toArray from by rw [a4d];exact m8.blk)
   have DD:=hjd (show g3≠g8∧g2≠g8∧w.heap.size≤g8∧Kept [] w w9 from⟨m8.ne H.out.lt,m8.ne (B2.out.kept HK.out (by simpa using D.out.2.2.1)).lt,Nat.le_trans (K.out.a0n HK.out D.out.2.1).size m8.le,(K.out.a0n HK.out D.out.2.1).a0i m8.kept⟩)
   replace B2:=hjd ((B2.out.kept HK.out (by simpa using D.out.2.2.1)).kept m8.kept (by simp))
   clear m8 H HK
   go_loopg [9] 16 (fun f i wk=>∃j:Nat,j≤16∧f + j=16∧i= .int .i64 (j:Int)∧Blk wk g8 22 (bv (fam 32 (mix (fun _=>(0:UInt8)) (pkB t) (2 * j)))).toArray∧Kept [g8] w9 wk)
   case atStart=>exact⟨0,Nat.zero_le _,rfl,rfl,A0.out,Kept.refl _ _⟩
   case round=>
    obtain⟨j,hj,hf3,rfl,hb,hkw⟩:=hrel
    have HB:=hjd hb
    have HBK:=hjd hkw
    clear hb hkw
    by_cases hlt3:j < 16
    ·have cj:=Nb.get (d:=t) (T.out.kept HBK.out (by simpa using DD.out.1)) j (by omega)
     have bj:=dg.out j (by omega)
     have ev:=d7r t j bj
     have od:=e6q t j bj
     have H1:=hjd (Blk.a8m (v:=a1q) HB.out)
     have H2:=hjd (Blk.a8m (v:=a1q) H1.out)
     have ce1:=Blk.a7r (v:=a1q) HB.out (2 * j) (by omega)
     have ce2:=Blk.a7r (v:=a1q) H1.out (2 * j + 1) (by omega)
     have z1:=Blk.frozen HB.out (2 * j)
     have z2:=Blk.frozen H1.out (2 * j + 1)
     have c2:(wr.setCell ⟨g8,2 * j,none⟩ (a1q (pkB t (2 * j)))).cell? ⟨g3,j,none⟩=some (.int .i64 (t j)):=Nb.get (d:=t) ((T.out.kept HBK.out (by simpa using DD.out.1)).kept ((Kept.refl [g8] wr).setCell (p:=⟨g8,2 * j,none⟩) (.inl (by simp)) _) (by simpa using DD.out.1)) j (by omega)
     have FK:=hjd ((HBK.out.setCell (p:=⟨g8,2 * j,none⟩) (.inl (by simp)) (a1q (pkB t (2 * j)))).setCell (p:=⟨g8,2 * j + 1,none⟩) (.inl (by simp)) (a1q (pkB t (2 * j + 1))))
     unfold a1q at H2 FK ce2 z2 c2
     rw [ev]at H2 FK ce2 z2 c2
     rw [od]at H2 FK
     generalize t j=T0 at *
     obtain⟨bj1,bj2⟩:=bj
     clear ev od
     go_wp2_with fail
     go_roundg (16 - (j + 1))
     case measure=>omega
     case rel=>exact⟨j + 1,by omega,by omega,by go_num,H2.out,FK.out⟩
    ·obtain rfl:j=16:=by omega
     have HB2:=hjd (show Blk wr g8 22 (bv (fam 32 (pkB t))).toArray from by have:=HB.out;rwa [show 2 * 16=32 from rfl,a3j]at this)
     have hlen:=hjd (show(bv (fam 32 (pkB t))).length=32 by rw [bv,List.length_map,a5b])
     go_wp2_with (first
      | (refine a0s a1u rfl (.tmp 8) rfl rfl HB2.out (by simpa using hlen.out) ?_)
      | (refine a1p a1u rfl (.tmp 2) (.tmp 80) rfl rfl rfl (B2.out.kept HBK.out (by simpa using DD.out.2.1)) rfl (by simpa using hlen.out) (a2a _) ?_;intro v2 b2 k2))
     exact a5c a1u rfl rfl b2 (by simpa using hlen.out) rfl ⟨by rw [←ht.out],(DD.out.2.2.2.a0n HBK.out DD.out.2.2.1).a0n k2 D.out.1⟩
end Go.Proofs.YtdbngnlpafcogaaGreat
namespace Go.Proofs.YtdbngnlpafcogaaGreat
open Go.RowKit Go.Mem Go.Txt
def dgN(x:Nat)(i:Nat):Int:=((x / 65536 ^ i % 65536:Nat):Int)
theorem c9o(x i:Nat):0≤dgN x i∧dgN x i < 65536:=by unfold dgN;omega
theorem e0q(x:Nat):∀n,dv (dgN x) n=((x % 65536 ^ n:Nat):Int)
 | 0=>by simp [dv,Nat.mod_one]
 | n + 1=>by
   rw [dv,e0q x n,Nat.pow_succ,Nat.mod_mul]
   unfold dgN
   rw [Int.natCast_add,Int.natCast_mul,Int.natCast_pow,Int.mul_comm]
   rfl
theorem dgN_sm(x:Nat):Sm 65535 (dgN x):=fun i _=>by have:=c9o x i;omega
abbrev PkC(d:Nat→Int)(y:Nat):Prop:=∀W,Calls Tryz.prog 107 #[nu d] W fun e w'=>e= .returned (ab (le y 32))∧Kept [] W w'
theorem e1x(d:Nat→Int)(hd:Sm 4611686018427387904 d)(x y:Nat)(hx:dv d 16 % PZ=(x:Int) % PZ)(hy:x % PP=y):PkC d y:=fun W=>by
 have h:=d9b d hd W
 obtain⟨h1,h2⟩:=d7i hd
 rw [pkB_le h1 y (by rw [h2,hx,←hy,b8m];omega)]at h
 exact h
theorem Sm.le{M N:Int}{d:Nat→Int}(h:Sm M d)(hMN:M≤N):Sm N d:=fun i hi=>by have:=h i hi;omega
end Go.Proofs.YtdbngnlpafcogaaGreat
namespace Go.Proofs.YtdbngnlpafcogaaGreat
open Go.RowKit Go.Mem Go.Txt
theorem d8o(v i:Nat)(hv:v < 18446744073709551616)(h:4≤i):dgN v i=0:=by
 unfold dgN
 rw [Nat.div_eq_of_lt (Nat.lt_of_lt_of_le hv (Nat.le_trans (show 18446744073709551616≤65536 ^ 4 by decide) (Nat.pow_le_pow_right (by omega) h)))]
 rfl
set_option maxHeartbeats 1600000 in
theorem e1d(v:Nat)(hv:v < 18446744073709551616)(w:World) :
 Calls Tryz.prog 86 #[.int .u64 v] w fun e w'=>e= .returned (nu (dgN v))∧Kept [] w w':=by
 have hvh:=hjd hv
 clear hv
 go_enter Tryz.func86,Tryz.ntmps86
 go_wp2_with (first
  | ((with_reducible refine a0f (o:=⟨some 2,_,_,_,_,_⟩) rfl rfl a2i ?_);intro g2 w2 m2)
  | ((with_reducible refine a0f (o:=⟨some 3,_,_,_,_,_⟩) rfl rfl a2i ?_);intro g3 w3 m3))
 have B2:=hjd (m2.blk.kept m3.kept (by simp))
 have H3:=hjd (show Nb w3 g3 (mix zd (dgN v) 0)from by unfold Nb;rw [a4d];exact m3.blk)
 have D:=hjd (show w.heap.size≤g2∧w.heap.size≤g3∧g2≠g3∧Kept [] w w3 from⟨m2.le,Nat.le_trans m2.kept.size m3.le,m3.ne m2.blk.lt,m2.kept.a0i m3.kept⟩)
 clear m2 m3
 go_loopg [4,0] 4 (fun f i x wk=>∃k:Nat,k≤4∧f + k=4∧i= .int .i64 k∧x= .int .u64 ((v / 65536 ^ k:Nat):Int)∧Nb wk g3 (mix zd (dgN v) k)∧Kept [g3] w3 wk)
 case atStart=>exact⟨0,Nat.zero_le _,rfl,rfl,by rw [Nat.pow_zero,Nat.div_one],H3.out,Kept.refl _ _⟩
 case round=>
  obtain⟨k,hk,hf,rfl,rfl,hb,hkw⟩:=hrel
  have H:=hjd hb
  have HK:=hjd hkw
  clear hb hkw
  by_cases hlt:k < 4
  ·have hd:dgN v k=((v / 65536 ^ k % 65536:Nat):Int):=rfl
   have hn:v / 65536 ^ (k + 1)=v / 65536 ^ k / 65536:=by rw [Nat.pow_succ,Nat.div_div_eq_div_mul]
   have hb:v / 65536 ^ k < 18446744073709551616:=Nat.lt_of_le_of_lt (Nat.div_le_self _ _) hvh.out
   have e0:=H.out.get k (by omega)
   have z0:=Blk.frozen H.out k
   have F:=hjd (show Nb (wr.setCell ⟨g3,k,none⟩ (.int .i64 (dgN v k))) g3 (mix zd (dgN v) (k + 1))from Blk.a8m (v:=fun z:Int=>Value.int .i64 z) H.out)
   have FK:=hjd (HK.out.setCell (p:=⟨g3,k,none⟩) (.inl (by simp)) (Value.int .i64 (dgN v k)))
   rw [hd,Int.natCast_emod]at F FK
   generalize v / 65536 ^ k=x at *
   replace hn:=hjd hn
   clear hd
   go_wp2_with fail
   go_roundg (4 - (k + 1))
   case measure=>omega
   case rel=>exact⟨k + 1,by omega,by omega,by go_num,by rw [hn.out];simp,F.out,FK.out⟩
  ·obtain rfl:k=4:=by omega
   have F:=hjd (show Nb wr g3 (dgN v)from H.out.same fun i _=>by
    unfold mix
    split
    ·rfl
    ·exact(d8o v i hvh.out (by omega)).symm)
   go_wp2_with (first
    | (with_reducible refine a0a (o:=⟨some 16,_,_,_,_,_⟩) a1c.row rfl (.tmp 3) rfl rfl F.out rfl ?_)
    | ((with_reducible refine a0b (o:=⟨none,.store 27 (.tmp 2) (.tmp 16),_,_,_,_⟩) a1c.row rfl (.tmp 2) (.tmp 16) rfl rfl rfl (B2.out.kept HK.out (by simpa using D.out.2.2.1)) rfl rfl (a1j _) ?_);intro v2 b2 k2))
   exact a0y a1c.row rfl rfl b2 rfl rfl ⟨rfl,(D.out.2.2.2.a0n HK.out D.out.2.1).a0n k2 D.out.1⟩
def aN(a b:Nat→Int)(i:Nat):Int:=a i + b i
def sN(a b:Nat→Int)(i:Nat):Int:=a i - b i
theorem d3r(a b:Nat→Int):∀n,dv (aN a b) n=dv a n + dv b n
 | 0=>rfl
 | n + 1=>by rw [dv,dv,dv,d3r a b n];unfold aN;grind
set_option maxHeartbeats 1600000 in
theorem c4z(a b:Nat→Int)(ha:Sm 280000 a)(hb:Sm 280000 b)(w:World) :
 Calls Tryz.prog 123 #[nu a,nu b] w fun e w'=>e= .returned (nu (aN a b))∧Kept [] w w':=by
 have sa:=hjd ha
 have sb:=hjd hb
 clear ha hb
 go_enter Tryz.func123,Tryz.ntmps123
 go_wp2_with (first
  | ((with_reducible refine a0m (o:=⟨some 2,_,_,_,_,_⟩) (v:=nu a) rfl (.tmp 0) rfl rfl ?_);intro g2 w2 m2)
  | ((with_reducible refine a0m (o:=⟨some 3,_,_,_,_,_⟩) (v:=nu b) rfl (.tmp 1) rfl rfl ?_);intro g3 w3 m3)
  | ((with_reducible refine a0f (o:=⟨some 4,_,_,_,_,_⟩) rfl rfl a2i ?_);intro g4 w4 m4)
  | ((with_reducible refine a0f (o:=⟨some 5,_,_,_,_,_⟩) rfl rfl a2i ?_);intro g5 w5 m5))
 have B2:=hjd (((m2.blk.kept m3.kept (by simp)).kept m4.kept (by simp)).kept m5.kept (by simp))
 have B3:=hjd ((m3.blk.kept m4.kept (by simp)).kept m5.kept (by simp))
 have B4:=hjd (m4.blk.kept m5.kept (by simp))
 have H5:=hjd (show Nb w5 g5 (mix zd (aN a b) 0)from by unfold Nb;rw [a4d];exact m5.blk)
 have K3:=(m2.kept.a0i m3.kept)
 have D:=hjd (show w.heap.size≤g4∧w.heap.size≤g5∧g2≠g5∧g3≠g5∧g4≠g5∧Kept [] w w5 from⟨Nat.le_trans K3.size m4.le,Nat.le_trans (K3.a0i m4.kept).size m5.le,m5.ne (((m2.blk.kept m3.kept (by simp)).kept m4.kept (by simp)).lt),m5.ne ((m3.blk.kept m4.kept (by simp)).lt),m5.ne m4.blk.lt,(K3.a0i m4.kept).a0i m5.kept⟩)
 clear m2 m3 m4 m5 K3
 go_loopg [7] 16 (fun f i wk=>∃k:Nat,k≤16∧f + k=16∧i= .int .i64 k∧Nb wk g5 (mix zd (aN a b) k)∧Kept [g5] w5 wk)
 case atStart=>exact⟨0,Nat.zero_le _,rfl,rfl,H5.out,Kept.refl _ _⟩
 case round=>
  obtain⟨k,hk,hf,rfl,hb,hkw⟩:=hrel
  have H:=hjd hb
  have HK:=hjd hkw
  clear hb hkw
  by_cases hlt:k < 16
  ·have c1:=Nb.get (d:=a) (B2.out.kept HK.out (by simpa using D.out.2.2.1)) k hlt
   have c2:=Nb.get (d:=b) (B3.out.kept HK.out (by simpa using D.out.2.2.2.1)) k hlt
   have e0:=H.out.get k hlt
   have z0:=Blk.frozen H.out k
   have b1:=sa.out k hlt
   have b2:=sb.out k hlt
   have F:=hjd (show Nb (wr.setCell ⟨g5,k,none⟩ (.int .i64 (a k + b k))) g5 (mix zd (aN a b) (k + 1))from Blk.a8m (v:=fun z:Int=>Value.int .i64 z) H.out)
   have FK:=hjd (HK.out.setCell (p:=⟨g5,k,none⟩) (.inl (by simp)) (Value.int .i64 (a k + b k)))
   generalize a k=x at *
   generalize b k=y at *
   obtain⟨b11,b12⟩:=b1
   obtain⟨b21,b22⟩:=b2
   go_wp2_with fail
   refine Txt.a3a (by kernel_rfl) (by kernel_rfl) ?_
   go_wp2_with fail
   refine⟨rfl,by kernel_rfl,?_⟩
   go_wp2_with fail
   go_roundg (16 - (k + 1))
   case measure=>omega
   case rel=>exact⟨k + 1,by omega,by omega,by go_num,Blk.drew F.out,FK.out.drew⟩
  ·obtain rfl:k=16:=by omega
   have F:=hjd (show Nb wr g5 (aN a b)from by have:=H.out;unfold Nb at this;rwa [a3j]at this)
   go_wp2_with (first
    | (with_reducible refine a0a (o:=⟨some 20,_,_,_,_,_⟩) a1c.row rfl (.tmp 5) rfl rfl F.out rfl ?_)
    | ((with_reducible refine a0b (o:=⟨none,.store 27 (.tmp 4) (.tmp 20),_,_,_,_⟩) a1c.row rfl (.tmp 4) (.tmp 20) rfl rfl rfl (B4.out.kept HK.out (by simpa using D.out.2.2.2.2.1)) rfl rfl (a1j _) ?_);intro v2 b2 k2))
   exact a0y a1c.row rfl rfl b2 rfl rfl ⟨rfl,(D.out.2.2.2.2.2.a0n HK.out D.out.2.1).a0n k2 D.out.1⟩
set_option maxHeartbeats 1600000 in
theorem d7v(a b:Nat→Int)(ha:Sm 280000 a)(hb:Sm 280000 b)(w:World) :
 Calls Tryz.prog 85 #[nu a,nu b] w fun e w'=>e= .returned (nu (sN a b))∧Kept [] w w':=by
 have sa:=hjd ha
 have sb:=hjd hb
 clear ha hb
 go_enter Tryz.func85,Tryz.ntmps85
 go_wp2_with (first
  | ((with_reducible refine a0m (o:=⟨some 2,_,_,_,_,_⟩) (v:=nu a) rfl (.tmp 0) rfl rfl ?_);intro g2 w2 m2)
  | ((with_reducible refine a0m (o:=⟨some 3,_,_,_,_,_⟩) (v:=nu b) rfl (.tmp 1) rfl rfl ?_);intro g3 w3 m3)
  | ((with_reducible refine a0f (o:=⟨some 4,_,_,_,_,_⟩) rfl rfl a2i ?_);intro g4 w4 m4)
  | ((with_reducible refine a0f (o:=⟨some 5,_,_,_,_,_⟩) rfl rfl a2i ?_);intro g5 w5 m5))
 have B2:=hjd (((m2.blk.kept m3.kept (by simp)).kept m4.kept (by simp)).kept m5.kept (by simp))
 have B3:=hjd ((m3.blk.kept m4.kept (by simp)).kept m5.kept (by simp))
 have B4:=hjd (m4.blk.kept m5.kept (by simp))
 have H5:=hjd (show Nb w5 g5 (mix zd (sN a b) 0)from by unfold Nb;rw [a4d];exact m5.blk)
 have K3:=(m2.kept.a0i m3.kept)
 have D:=hjd (show w.heap.size≤g4∧w.heap.size≤g5∧g2≠g5∧g3≠g5∧g4≠g5∧Kept [] w w5 from⟨Nat.le_trans K3.size m4.le,Nat.le_trans (K3.a0i m4.kept).size m5.le,m5.ne (((m2.blk.kept m3.kept (by simp)).kept m4.kept (by simp)).lt),m5.ne ((m3.blk.kept m4.kept (by simp)).lt),m5.ne m4.blk.lt,(K3.a0i m4.kept).a0i m5.kept⟩)
 clear m2 m3 m4 m5 K3
 go_loopg [7] 16 (fun f i wk=>∃k:Nat,k≤16∧f + k=16∧i= .int .i64 k∧Nb wk g5 (mix zd (sN a b) k)∧Kept [g5] w5 wk)
 case atStart=>exact⟨0,Nat.zero_le _,rfl,rfl,H5.out,Kept.refl _ _⟩
 case round=>
  obtain⟨k,hk,hf,rfl,hb,hkw⟩:=hrel
  have H:=hjd hb
  have HK:=hjd hkw
  clear hb hkw
  by_cases hlt:k < 16
  ·have c1:=Nb.get (d:=a) (B2.out.kept HK.out (by simpa using D.out.2.2.1)) k hlt
   have c2:=Nb.get (d:=b) (B3.out.kept HK.out (by simpa using D.out.2.2.2.1)) k hlt
   have e0:=H.out.get k hlt
   have z0:=Blk.frozen H.out k
   have b1:=sa.out k hlt
   have b2:=sb.out k hlt
   have F:=hjd (show Nb (wr.setCell ⟨g5,k,none⟩ (.int .i64 (a k - b k))) g5 (mix zd (sN a b) (k + 1))from Blk.a8m (v:=fun z:Int=>Value.int .i64 z) H.out)
   have FK:=hjd (HK.out.setCell (p:=⟨g5,k,none⟩) (.inl (by simp)) (Value.int .i64 (a k - b k)))
   generalize a k=x at *
   generalize b k=y at *
   obtain⟨b11,b12⟩:=b1
   obtain⟨b21,b22⟩:=b2
   go_wp2_with fail
   refine Txt.a3a (by kernel_rfl) (by kernel_rfl) ?_
   go_wp2_with fail
   refine⟨rfl,by kernel_rfl,?_⟩
   go_wp2_with fail
   go_roundg (16 - (k + 1))
   case measure=>omega
   case rel=>exact⟨k + 1,by omega,by omega,by go_num,Blk.drew F.out,FK.out.drew⟩
  ·obtain rfl:k=16:=by omega
   have F:=hjd (show Nb wr g5 (sN a b)from by have:=H.out;unfold Nb at this;rwa [a3j]at this)
   go_wp2_with (first
    | (with_reducible refine a0a (o:=⟨some 20,_,_,_,_,_⟩) a1c.row rfl (.tmp 5) rfl rfl F.out rfl ?_)
    | ((with_reducible refine a0b (o:=⟨none,.store 27 (.tmp 4) (.tmp 20),_,_,_,_⟩) a1c.row rfl (.tmp 4) (.tmp 20) rfl rfl rfl (B4.out.kept HK.out (by simpa using D.out.2.2.2.2.1)) rfl rfl (a1j _) ?_);intro v2 b2 k2))
   exact a0y a1c.row rfl rfl b2 rfl rfl ⟨rfl,(D.out.2.2.2.2.2.a0n HK.out D.out.2.1).a0n k2 D.out.1⟩
theorem c5f(a b:Nat→Int)(ha:Sm 70000 a)(hb:Sm 70000 b)(w:World) :
 Calls Tryz.prog 123 #[nu a,nu b] w fun e w'=>e= .returned (nu (aN a b))∧Kept [] w w':=c4z a b (ha.le (by omega)) (hb.le (by omega)) w
end Go.Proofs.YtdbngnlpafcogaaGreat
namespace Go.Proofs.YtdbngnlpafcogaaGreat
open Go.RowKit Go.Mem Go.Txt
def row(a b:Nat→Int)(r m k:Nat):Int:=if r≤k∧k < r + m then a r * b (k - r)else 0
def rows(a b:Nat→Int):Nat→Nat→Int
 | 0,_=>0
 | n + 1,k=>rows a b n k + row a b n 16 k
def tS(a b:Nat→Int)(n m k:Nat):Int:=rows a b n k + row a b n m k
theorem e4s(a b:Nat→Int)(k:Nat):tS a b 0 0 k=0:=by
 unfold tS row
 rw [if_neg (by omega)];rfl
theorem e2u(a b:Nat→Int)(n k:Nat):tS a b (n + 1) 0 k=tS a b n 16 k:=by
 unfold tS
 rw [show row a b (n + 1) 0 k=0 from by unfold row;rw [if_neg (by omega)],show rows a b (n + 1) k=rows a b n k + row a b n 16 k from rfl]
 omega
theorem e6k(a b:Nat→Int)(n m k:Nat):tS a b n (m + 1) k=if k=n + m then tS a b n m (n + m) + a n * b m else tS a b n m k:=by
 unfold tS row
 by_cases h:k=n + m
 ·subst h
  rw [if_pos rfl,if_pos (by omega),if_neg (by omega),show n + m - n=m from by omega]
  omega
 ·rw [if_neg h]
  by_cases h2:n≤k∧k < n + m
  ·rw [if_pos h2,if_pos (by omega)]
  ·rw [if_neg h2,if_neg (by omega)]
theorem c0l{x y M:Int}(hx: -M≤x∧x≤M)(hy: -M≤y∧y≤M): -(M * M)≤x * y∧x * y≤M * M:=by
 have h1:0≤(M - x) * (M - y):=Int.mul_nonneg (by omega) (by omega)
 have h2:0≤(M + x) * (M + y):=Int.mul_nonneg (by omega) (by omega)
 have h3:0≤(M - x) * (M + y):=Int.mul_nonneg (by omega) (by omega)
 have h4:0≤(M + x) * (M - y):=Int.mul_nonneg (by omega) (by omega)
 constructor <;> grind
theorem c0x{a b:Nat→Int}(ha:Sm 280000 a)(hb:Sm 280000 b)(r m k:Nat)(hr:r < 16)(hm:m≤16): -78400000000≤row a b r m k∧row a b r m k≤78400000000:=by
 unfold row
 split
 ·have:=c0l (ha r hr) (hb (k - r) (by omega))
  omega
 ·omega
theorem a5j{a b:Nat→Int}(ha:Sm 280000 a)(hb:Sm 280000 b)(k:Nat):∀n:Nat,n≤16→-(78400000000 * (n:Int))≤rows a b n k∧rows a b n k≤78400000000 * (n:Int)
 | 0,_=>by simp [rows]
 | n + 1,h=>by
   have h1:=a5j ha hb k n (by omega)
   have h2:=c0x ha hb n 16 k (by omega) (by omega)
   simp only [rows]
   omega
theorem d4h{a b:Nat→Int}(ha:Sm 280000 a)(hb:Sm 280000 b)(n m k:Nat)(hn:n < 16)(hm:m≤16): -1332800000000≤tS a b n m k∧tS a b n m k≤1332800000000:=by
 have h1:=a5j ha hb k n (by omega)
 have h2:=c0x ha hb n m k hn hm
 unfold tS
 omega
def b3c(a b:Nat→Int)(i:Nat):Int:=if i < 15 then rows a b 16 i + 38 * rows a b 16 (i + 16)else rows a b 16 i
theorem c8o{a b:Nat→Int}(ha:Sm 280000 a)(hb:Sm 280000 b):Sm 50000000000000 (b3c a b):=fun i _=>by
 have h1:=a5j ha hb i 16 (by omega)
 have h2:=a5j ha hb (i + 16) 16 (by omega)
 unfold b3c
 split <;> omega
theorem c2w(c:Int)(b:Nat→Int):∀n,dv (fun i=>c * b i) n=c * dv b n
 | 0=>by simp [dv]
 | n + 1=>by rw [dv,dv,c2w c b n];grind
theorem d2g(a b:Nat→Int)(n:Nat):dv (fun i=>a i + b i) n=dv a n + dv b n:=d3r a b n
theorem c5k:∀(n:Nat) (f:Nat→Int),(∀i,i < n→f i=0)→dv f n=0
 | 0,_,_=>rfl
 | n + 1,f,h=>by rw [dv,c5k n f fun i hi=>h i (by omega),h n (by omega)];simp
theorem dv_row(a b:Nat→Int)(r:Nat)(h:r < 16):dv (row a b r 16) 31=a r * 65536 ^ r * dv b 16:=by
 rw [show(31:Nat)=r + (16 + (15 - r))from by omega,a3y (row a b r 16) r (16 + (15 - r)),c5k r _ fun i hi=>by unfold row;rw [if_neg (by omega)],a3y (fun j=>row a b r 16 (r + j)) 16 (15 - r),c5k (15 - r) _ fun i _=>by unfold row;rw [if_neg (by omega)]]
 have e:dv (fun j=>row a b r 16 (r + j)) 16=dv (fun j=>a r * b j) 16:=b0c 16 fun i hi=>by unfold row;rw [if_pos (by omega),show r + i - r=i from by omega]
 rw [e,c2w]
 grind
theorem c8p(a b:Nat→Int):∀n,n≤16→dv (rows a b n) 31=dv a n * dv b 16
 | 0,_=>by rw [c5k 31 (rows a b 0) fun _ _=>rfl];simp [dv]
 | n + 1,h=>by
   rw [show rows a b (n + 1)=fun k=>rows a b n k + row a b n 16 k from rfl,d2g,c8p a b n (by omega),dv_row a b n (by omega),show dv a (n + 1)=dv a n + a n * 65536 ^ n from rfl]
   generalize dv b 16=B
   grind
theorem e4o(a b:Nat→Int):dv (b3c a b) 16 % PZ=dv a 16 * dv b 16 % PZ:=by
 have h:=c8p a b 16 (Nat.le_refl _)
 have hs:=a3y (rows a b 16) 16 15
 rw [show(16 + 15:Nat)=31 from rfl,h,b8s]at hs
 have e:dv (b3c a b) 16=dv (rows a b 16) 16 + 38 * dv (fun j=>rows a b 16 (16 + j)) 15:=by
  have e1:dv (b3c a b) 15=dv (rows a b 16) 15 + 38 * dv (fun j=>rows a b 16 (16 + j)) 15:=by
   rw [←c2w,←d2g]
   exact b0c 15 fun i hi=>by unfold b3c;rw [if_pos hi,Nat.add_comm i 16]
  rw [show dv (b3c a b) 16=dv (b3c a b) 15 + b3c a b 15 * 65536 ^ 15 from rfl,e1,show b3c a b 15=rows a b 16 15 from by unfold b3c;rw [if_neg (by omega)],show dv (rows a b 16) 16=dv (rows a b 16) 15 + rows a b 16 15 * 65536 ^ 15 from rfl]
  omega
 rw [e,hs]
 generalize dv (fun j=>rows a b 16 (16 + j)) 15=q
 rw [show dv (rows a b 16) 16 + B16 * q=dv (rows a b 16) 16 + 38 * q + PZ * (2 * q)from by rw [e0r];grind,Int.add_mul_emod_self_left]
def muN(a b:Nat→Int):Nat→Int:=cy (cy (b3c a b))
theorem cy2_sm{d:Nat→Int}(h:Sm 4611686018427387904 d):Sm 70000 (cy (cy d)):=by
 have hv:=c4r (b0q h) (fun i hi _=>cy_dg d i hi)
 have hc:=b1d (cy d) 15
 have hb:=b2n (cr (cy d)) (a2w _) 16
 rw [b8s]at hb hc
 have hq: -1≤cq (cy d) 15∧cq (cy d) 15≤1:=by
  have hc2:dv (cy d) 16=dv (cr (cy d)) 16 + cq (cy d) 15 * B16:=hc
  unfold B16 at *
  omega
 intro i _
 have h0:=a2w (cy d) 0
 have h1:=a2w (cy d) i
 rw [show cy (cy d) i=if i=0 then cr (cy d) 0 + 38 * cq (cy d) 15 else cr (cy d) i from rfl]
 split <;> omega
theorem d9t(d:Nat→Int):dv (cy d) 16 % PZ=dv d 16 % PZ:=by rw [d7k,←e7j,b2v]
theorem c1q{a b:Nat→Int}(ha:Sm 280000 a)(hb:Sm 280000 b):Sm 70000 (muN a b):=cy2_sm ((c8o ha hb).le (by omega))
theorem muN_sm{a b:Nat→Int}(ha:Sm 70000 a)(hb:Sm 70000 b):Sm 70000 (muN a b):=c1q (ha.le (by omega)) (hb.le (by omega))
theorem c1m(a b:Nat→Int):dv (muN a b) 16 % PZ=dv a 16 * dv b 16 % PZ:=by
 unfold muN
 rw [d9t,d9t,e4o]
end Go.Proofs.YtdbngnlpafcogaaGreat
namespace Go.Proofs.YtdbngnlpafcogaaGreat
open Go.RowKit Go.Mem Go.Txt
theorem zeroT:(Tryz.prog.info? 200).map (·.zero)=some (some (.agg (iv (fam 31 zd)).toArray)):=by kernel_rfl
abbrev Tb(u:World)(g:Nat)(d:Nat→Int):Prop:=Blk u g 200 (iv (fam 31 d)).toArray
theorem Tb.get{u:World}{g:Nat}{d:Nat→Int}(h:Tb u g d)(i:Nat)(hi:i < 31):u.cell? ⟨g,i,none⟩=some (.int .i64 (d i)):=Blk.a7r (v:=fun z:Int=>Value.int .i64 z) h i hi
theorem Tb.same{u:World}{g:Nat}{d e:Nat→Int}(h:Tb u g d)(he:∀i,i < 31→d i=e i):Tb u g e:=by
 have:=a3z 31 he
 unfold Tb at h ⊢
 rwa [this]at h
theorem Tb.step{u:World}{g:Nat}{a b:Nat→Int}{n m:Nat}(h:Tb u g (tS a b n m)):Tb (u.setCell ⟨g,n + m,none⟩ (.int .i64 (tS a b n m (n + m) + a n * b m))) g (tS a b n (m + 1)):=
 Tb.same (Blk.d4c (v:=fun z:Int=>Value.int .i64 z) h (n + m) _) fun i _=>(e6k a b n m i).symm
structure Mu (w0:World) (g2 g3 g4 g5:Nat) (a b T:Nat→Int) (u:World):Prop where
 a:Nb u g2 a
 b:Nb u g3 b
 r:Nb u g4 zd
 t:Tb u g5 T
 k:Kept [] w0 u
structure Mu5 (w0:World) (g2 g3 g4 g5:Nat):Prop where
 n2:g2≠g5
 n3:g3≠g5
 n4:g4≠g5
 l4:w0.heap.size≤g4
 l5:w0.heap.size≤g5
theorem Mu.kept{w0:World}{g2 g3 g4 g5:Nat}{a b T:Nat→Int}{u u':World}(h:Mu w0 g2 g3 g4 g5 a b T u)(hk:Kept [] u u'):Mu w0 g2 g3 g4 g5 a b T u':=
 ⟨Blk.kept h.a hk (by simp),Blk.kept h.b hk (by simp),Blk.kept h.r hk (by simp),Blk.kept h.t hk (by simp),h.k.a0i hk⟩
theorem Mu.put{w0:World}{g2 g3 g4 g5:Nat}{a b T T':Nat→Int}{u u':World}(h:Mu w0 g2 g3 g4 g5 a b T u)(n:Mu5 w0 g2 g3 g4 g5)(ht:Tb u' g5 T')(hk:Kept [g5] u u'):Mu w0 g2 g3 g4 g5 a b T' u':=
 ⟨Blk.kept h.a hk (by simpa using n.n2),Blk.kept h.b hk (by simpa using n.n3),Blk.kept h.r hk (by simpa using n.n4),ht,h.k.a0n hk n.l5⟩
theorem Mu.drew{w0:World}{g2 g3 g4 g5:Nat}{a b T:Nat→Int}{u:World}(h:Mu w0 g2 g3 g4 g5 a b T u):Mu w0 g2 g3 g4 g5 a b T u.drew:=⟨h.a,h.b,h.r,h.t,h.k.drew⟩
theorem Mu.same{w0:World}{g2 g3 g4 g5:Nat}{a b T T':Nat→Int}{u:World}(h:Mu w0 g2 g3 g4 g5 a b T u)(he:∀i,i < 31→T i=T' i):Mu w0 g2 g3 g4 g5 a b T' u:=⟨h.a,h.b,h.r,Tb.same h.t he,h.k⟩
theorem d6a{u:World}{g:Nat}{a b:Nat→Int}{k:Nat}(h:Nb u g (mix zd (b3c a b) k)):Nb ((u.setCell ⟨g,k,none⟩ (.int .i64 (rows a b 16 k))).setCell ⟨g,k,none⟩ (.int .i64 (b3c a b k))) g (mix zd (b3c a b) (k + 1)):=((h.set k _).set k _).same fun i _=>by
 unfold mix
 by_cases e:i=k
 ·rw [if_pos e,if_pos (by omega),e]
 ·rw [if_neg e,if_neg e]
  by_cases h:i < k
  ·rw [if_pos h,if_pos (by omega)]
  ·rw [if_neg h,if_neg (by omega)]
theorem d6z{u:World}{g:Nat}{a b:Nat→Int}(h:Nb u g (mix zd (b3c a b) 15)):Nb (u.setCell ⟨g,15,none⟩ (.int .i64 (rows a b 16 15))) g (mix zd (b3c a b) 16):=
 Blk.a8m (v:=fun z:Int=>Value.int .i64 z) h
set_option maxHeartbeats 4000000 in
theorem b6y(a b:Nat→Int)(ha:Sm 280000 a)(hb:Sm 280000 b)(w:World) :
 Calls Tryz.prog 84 #[nu a,nu b] w fun e w'=>e= .returned (nu (muN a b))∧Kept [] w w':=by
 have hp:=c8o ha hb
 have c1:=hjd (a8g (b3c a b) (hp.le (by omega)))
 have c2:=hjd (a8g (cy (b3c a b)) ((b0q (hp.le (by omega))).le (by omega)))
 have ha2:=hjd ha
 have hb2:=hjd hb
 clear ha hb hp
 go_enter Tryz.func84,Tryz.ntmps84
 go_wp2_with (first
  | ((with_reducible refine a0m (o:=⟨some 2,_,_,_,_,_⟩) (v:=nu a) rfl (.tmp 0) rfl rfl ?_);intro g2 w2 m2)
  | ((with_reducible refine a0m (o:=⟨some 3,_,_,_,_,_⟩) (v:=nu b) rfl (.tmp 1) rfl rfl ?_);intro g3 w3 m3)
  | ((with_reducible refine a0f (o:=⟨some 4,_,_,_,_,_⟩) rfl rfl a2i ?_);intro g4 w4 m4)
  | ((with_reducible refine a0f (o:=⟨some 5,_,_,_,_,_⟩) rfl rfl zeroT ?_);intro g5 w5 m5))
 have K3:=m2.kept.a0i m3.kept
 have N:=hjd (show Mu5 w g2 g3 g4 g5 from⟨m5.ne (((m2.blk.kept m3.kept (by simp)).kept m4.kept (by simp)).lt),m5.ne ((m3.blk.kept m4.kept (by simp)).lt),m5.ne m4.blk.lt,Nat.le_trans K3.size m4.le,Nat.le_trans (K3.a0i m4.kept).size m5.le⟩)
 have H0:=hjd (show Mu w g2 g3 g4 g5 a b (tS a b 0 0) w5 from⟨((m2.blk.kept m3.kept (by simp)).kept m4.kept (by simp)).kept m5.kept (by simp),(m3.blk.kept m4.kept (by simp)).kept m5.kept (by simp),m4.blk.kept m5.kept (by simp),Tb.same (d:=zd) m5.blk fun i _=>(e4s a b i).symm,(K3.a0i m4.kept).a0i m5.kept⟩)
 clear m2 m3 m4 m5 K3
 go_loopg [6] 16 (fun f i wk=>∃n:Nat,n≤16∧f + n=16∧i= .int .i64 n∧Mu w g2 g3 g4 g5 a b (tS a b n 0) wk)
 case atStart=>exact⟨0,Nat.zero_le _,rfl,rfl,H0.out⟩
 case round=>
  obtain⟨n,hn,hf,rfl,hb⟩:=hrel
  have H:=hjd hb
  clear hb
  by_cases hlt:n < 16
  ·go_wp2_with fail
   go_loopg [7] 16 (fun f i wk=>∃m:Nat,m≤16∧f + m=16∧i= .int .i64 (m:Int)∧Mu w g2 g3 g4 g5 a b (tS a b n m) wk)
   case atStart=>exact⟨0,Nat.zero_le _,rfl,rfl,H.out⟩
   case round=>
    obtain⟨m,hm,hf2,rfl,hb⟩:=hrel
    have H2:=hjd hb
    clear hb
    by_cases hlt2:m < 16
    ·have ca:=Nb.get H2.out.a n hlt
     have cb:=Nb.get H2.out.b m hlt2
     have ct:=Tb.get H2.out.t (n + m) (by omega)
     have z0:=Blk.frozen H2.out.t (n + m)
     have bp:=c0l (ha2.out n hlt) (hb2.out m hlt2)
     have bt:=d4h ha2.out hb2.out n m (n + m) hlt (by omega)
     have F:=hjd (H2.out.put N.out (Tb.step H2.out.t) ((Kept.refl [g5] wr).setCell (p:=⟨g5,n + m,none⟩) (.inl (by simp)) _))
     have ba:=ha2.out n hlt
     have bb:=hb2.out m hlt2
     obtain⟨pv,hpv⟩:∃x,x=a n * b m:=⟨_,rfl⟩
     rw [←hpv]at bp F
     replace hpv:=hpv.symm
     generalize tS a b n m (n + m)=tv at *
     generalize a n=av at *
     generalize b m=bv2 at *
     obtain⟨bp1,bp2⟩:=bp
     obtain⟨bt1,bt2⟩:=bt
     obtain⟨ba1,ba2⟩:=ba
     obtain⟨bb1,bb2⟩:=bb
     go_wp2_with fail
     refine Txt.a3a (by kernel_rfl) (by kernel_rfl) ?_
     go_wp2_with fail
     refine⟨rfl,by kernel_rfl,?_⟩
     go_wp2_with fail
     go_roundg (16 - (m + 1))
     case measure=>omega
     case rel=>exact⟨m + 1,by omega,by omega,by go_num,F.out.drew⟩
    ·obtain rfl:m=16:=by omega
     go_wp2_with fail
     go_roundg (16 - (n + 1))
     case measure=>omega
     case rel=>exact⟨n + 1,by omega,by omega,by go_num,H2.out.same fun i _=>(e2u a b n i).symm⟩
  ·obtain rfl:n=16:=by omega
   go_wp2_with ((with_reducible refine a0f (o:=⟨some 8,_,_,_,_,_⟩) rfl rfl a2i ?_);intro g8 w8 m8)
   have T:=hjd (show Tb w8 g5 (rows a b 16)from Tb.same (H.out.kept m8.kept).t fun i _=>by unfold tS row;rw [if_neg (by omega)];omega)
   have R4:=hjd (H.out.kept m8.kept).r
   have D:=hjd (show g5≠g8∧g4≠g8∧w.heap.size≤g8∧Kept [] w w8 from⟨m8.ne (Blk.lt H.out.t),m8.ne (Blk.lt H.out.r),Nat.le_trans H.out.k.size m8.le,(H.out.kept m8.kept).k⟩)
   have H8:=hjd (show Nb w8 g8 (mix zd (b3c a b) 0)from by unfold Nb;rw [a4d];exact m8.blk)
   clear m8 H
   go_loopg [9] 16 (fun f i wk=>∃k:Nat,k≤16∧f + k=16∧i= .int .i64 k∧Nb wk g8 (mix zd (b3c a b) k)∧Kept [g8] w8 wk)
   case atStart=>exact⟨0,Nat.zero_le _,rfl,rfl,H8.out,Kept.refl _ _⟩
   case round=>
    obtain⟨k,hk,hf3,rfl,hb,hkw⟩:=hrel
    have H:=hjd hb
    have HK:=hjd hkw
    clear hb hkw
    have b1:=a5j ha2.out hb2.out k 16 (by omega)
    have b2:=a5j ha2.out hb2.out (k + 16) 16 (by omega)
    obtain⟨b11,b12⟩:=b1
    obtain⟨b21,b22⟩:=b2
    have b11: -1254400000000≤rows a b 16 k:=by omega
    have b12:rows a b 16 k≤1254400000000:=by omega
    have b21: -1254400000000≤rows a b 16 (k + 16):=by omega
    have b22:rows a b 16 (k + 16)≤1254400000000:=by omega
    by_cases hlt3:k < 15
    ·have c1:=Tb.get (T.out.kept HK.out (by simpa using D.out.1)) k (by omega)
     have e0:=H.out.get k (by omega)
     have z0:=Blk.frozen H.out k
     have HS:=hjd (H.out.set k (rows a b 16 k))
     have HSK:=hjd (HK.out.setCell (p:=⟨g8,k,none⟩) (.inl (by simp)) (Value.int .i64 (rows a b 16 k)))
     have c2:=Tb.get (T.out.kept HSK.out (by simpa using D.out.1)) (k + 16) (by omega)
     have c3:=HS.out.get k (by omega)
     rw [if_pos rfl]at c3
     have z1:=Blk.frozen HS.out k
     have F:=hjd (d6a H.out)
     have FK:=hjd (HSK.out.setCell (p:=⟨g8,k,none⟩) (.inl (by simp)) (Value.int .i64 (b3c a b k)))
     rw [show b3c a b k=rows a b 16 k + 38 * rows a b 16 (k + 16)from if_pos hlt3]at F FK
     clear HS HSK
     generalize rows a b 16 k=x at *
     generalize rows a b 16 (k + 16)=y at *
     go_wp2_with fail
     refine Txt.a3a (by kernel_rfl) (by kernel_rfl) ?_
     go_wp2_with fail
     refine⟨rfl,by kernel_rfl,?_⟩
     go_wp2_with fail
     go_roundg (16 - (k + 1))
     case measure=>omega
     case rel=>exact⟨k + 1,by omega,by omega,by go_num,Blk.drew F.out,FK.out.drew⟩
    ·by_cases hlt4:k < 16
     ·obtain rfl:k=15:=by omega
      have c1:=Tb.get (T.out.kept HK.out (by simpa using D.out.1)) 15 (by omega)
      have e0:=H.out.get 15 (by omega)
      have z0:=Blk.frozen H.out 15
      have F:=hjd (d6z H.out)
      have FK:=hjd (HK.out.setCell (p:=⟨g8,15,none⟩) (.inl (by simp)) (Value.int .i64 (rows a b 16 15)))
      generalize rows a b 16 15=x at *
      go_wp2_with fail
      go_roundg (16 - (15 + 1))
      case measure=>omega
      case rel=>exact⟨15 + 1,by omega,by omega,by go_num,F.out,FK.out⟩
     ·obtain rfl:k=16:=by omega
      have F:=hjd (show Nb wr g8 (b3c a b)from by have:=H.out;unfold Nb at this;rwa [a3j]at this)
      have R:=hjd (show Nb wr g4 zd from Blk.kept R4.out HK.out (by simpa using D.out.2.1))
      have K:=hjd (D.out.2.2.2.a0n HK.out D.out.2.2.1)
      clear b11 b12 b21 b22
      go_wp2_with (first
       | (with_reducible refine a0a (o:=⟨some 53,_,_,_,_,_⟩) a1c.row rfl (.tmp 8) rfl rfl F.out rfl ?_)
       | (go_at_call 150;(with_reducible refine(c1.out _).mono ?_);rintro e x1 ⟨rfl,kk1⟩)
       | (go_at_call 150;(with_reducible refine(c2.out _).mono ?_);rintro e x2 ⟨rfl,kk2⟩)
       | ((with_reducible refine a0b (o:=⟨none,.store 27 (.tmp 4) (.tmp 55),_,_,_,_⟩) a1c.row rfl (.tmp 4) (.tmp 55) rfl rfl rfl (Blk.kept (Blk.kept R.out kk1 (by simp)) kk2 (by simp)) rfl rfl (a1j _) ?_);intro v2 b2 k2))
      exact a0y a1c.row rfl rfl b2 rfl rfl ⟨rfl,((K.out.a0i kk1).a0i kk2).a0n k2 N.out.l4⟩
theorem b6z(a b:Nat→Int)(ha:Sm 70000 a)(hb:Sm 70000 b)(w:World) :
 Calls Tryz.prog 84 #[nu a,nu b] w fun e w'=>e= .returned (nu (muN a b))∧Kept [] w w':=b6y a b (ha.le (by omega)) (hb.le (by omega)) w
end Go.Proofs.YtdbngnlpafcogaaGreat
