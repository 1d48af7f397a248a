/-
  Field: what powers come to: the plain law.
  Field: inverses: the walk.
  Field: a root of minus one; odd numbers.
  Field: roots: the walk.
  Field: what roots come to.
  Field: numbers of bytes: the plain law.
  Field: numbers of bytes: the walk.
  The curve: words for the walks.
  The curve: a sum: the walk.
  The curve: points of coordinates; equality of points; the neutral point in the place of the zero value.
-/
import Derived.Test.YtdbngnlpafcogaaGreatZcFe15
import Derived.Test.YtdbngnlpafcogaaGreatZcFam
import Derived.DeepKeys
set_option maxRecDepth 100000
namespace Go.Proofs.YtdbngnlpafcogaaGreat
open Go.RowKit Go.Mem Go.Txt
def mlM(x y:Nat):Nat:=x * y % PP
def sqM:Nat→Nat→Nat
 | 0,x=>x
 | k + 1,x=>mlM (sqM k x) (sqM k x)
theorem Rep.ml{F G:Nat→Nat}{x y:Nat}(h:Rep F x)(h2:Rep G y):Rep (mlF F G) (mlM x y):=⟨(h.mul h2).lim,by have:=(h.mul h2).val;unfold mlM;rw [Nat.mod_mod];exact this⟩
theorem Rep.sq{F:Nat→Nat}{x:Nat}(h:Rep F x):Rep (sqF F) (mlM x x):=h.ml h
theorem Rep.sn{F:Nat→Nat}{x:Nat}(h:Rep F x):∀k,Rep (sqn k F) (sqM k x)
 | 0=>h
 | k + 1=>(Rep.sn h k).sq
def Pw(x e y:Nat):Prop:=y % PP=x ^ e % PP
theorem Pw.one(x:Nat):Pw x 1 x:=by unfold Pw;rw [Nat.pow_one]
theorem Pw.ml{x a b y z:Nat}(h:Pw x a y)(h2:Pw x b z):Pw x (a + b) (mlM y z):=by
 unfold Pw mlM at *;rw [Nat.mod_mod,Nat.mul_mod,h,h2,←Nat.mul_mod,Nat.pow_add]
theorem Pw.sn{x a y:Nat}(h:Pw x a y):∀k,Pw x (a * 2 ^ k) (sqM k y)
 | 0=>by rw [Nat.pow_zero,Nat.mul_one];exact h
 | k + 1=>by
   have:=(Pw.sn h k).ml (Pw.sn h k)
   rwa [show a * 2 ^ k + a * 2 ^ k=a * 2 ^ (k + 1)from by rw [Nat.pow_succ,←Nat.mul_assoc,Nat.mul_two]]at this
theorem Pw.to{x a b y:Nat}(h:Pw x a y)(e:a=b):Pw x b y:=e▸h
def e0d(x:Nat):Nat:=mlM x x
def m_qa(x:Nat):Nat:=sqM 2 (e0d x)
def c6i(x:Nat):Nat:=mlM (m_qa x) x
def c2b(x:Nat):Nat:=mlM (c6i x) (e0d x)
def m_qb(x:Nat):Nat:=mlM (c2b x) (c2b x)
def m_n5(x:Nat):Nat:=mlM (m_qb x) (c6i x)
def m_qc(x:Nat):Nat:=sqM 5 (m_n5 x)
def d4r(x:Nat):Nat:=mlM (m_qc x) (m_n5 x)
def m_qd(x:Nat):Nat:=sqM 10 (d4r x)
def d9p(x:Nat):Nat:=mlM (m_qd x) (d4r x)
def m_qe(x:Nat):Nat:=sqM 20 (d9p x)
def m_qf(x:Nat):Nat:=mlM (m_qe x) (d9p x)
def m_qg(x:Nat):Nat:=sqM 10 (m_qf x)
def d7r(x:Nat):Nat:=mlM (m_qg x) (d4r x)
def m_qh(x:Nat):Nat:=sqM 50 (d7r x)
def c8b(x:Nat):Nat:=mlM (m_qh x) (d7r x)
def m_qi(x:Nat):Nat:=sqM 100 (c8b x)
def m_qj(x:Nat):Nat:=mlM (m_qi x) (c8b x)
def m_qk(x:Nat):Nat:=sqM 50 (m_qj x)
def m_nn(x:Nat):Nat:=mlM (m_qk x) (d7r x)
theorem d6n{F:Nat→Nat}{x:Nat}(h:Rep F x):Rep (c2g F) (e0d x):=Rep.sq h
theorem rep_qa{F:Nat→Nat}{x:Nat}(h:Rep F x):Rep (e8f F) (m_qa x):=Rep.sn (d6n h) 2
theorem c8a{F:Nat→Nat}{x:Nat}(h:Rep F x):Rep (b3u F) (c6i x):=Rep.ml (rep_qa h) h
theorem c6r{F:Nat→Nat}{x:Nat}(h:Rep F x):Rep (a8w F) (c2b x):=Rep.ml (c8a h) (d6n h)
theorem rep_qb{F:Nat→Nat}{x:Nat}(h:Rep F x):Rep (e7z F) (m_qb x):=Rep.sq (c6r h)
theorem e1v{F:Nat→Nat}{x:Nat}(h:Rep F x):Rep (e2k F) (m_n5 x):=Rep.ml (rep_qb h) (c8a h)
theorem rep_qc{F:Nat→Nat}{x:Nat}(h:Rep F x):Rep (e8l F) (m_qc x):=Rep.sn (e1v h) 5
theorem c4c{F:Nat→Nat}{x:Nat}(h:Rep F x):Rep (b7c F) (d4r x):=Rep.ml (rep_qc h) (e1v h)
theorem rep_qd{F:Nat→Nat}{x:Nat}(h:Rep F x):Rep (e8c F) (m_qd x):=Rep.sn (c4c h) 10
theorem d3m{F:Nat→Nat}{x:Nat}(h:Rep F x):Rep (c2s F) (d9p x):=Rep.ml (rep_qd h) (c4c h)
theorem rep_qe{F:Nat→Nat}{x:Nat}(h:Rep F x):Rep (e8i F) (m_qe x):=Rep.sn (d3m h) 20
theorem rep_qf{F:Nat→Nat}{x:Nat}(h:Rep F x):Rep (e8b F) (m_qf x):=Rep.ml (rep_qe h) (d3m h)
theorem rep_qg{F:Nat→Nat}{x:Nat}(h:Rep F x):Rep (e7x F) (m_qg x):=Rep.sn (rep_qf h) 10
theorem c3y{F:Nat→Nat}{x:Nat}(h:Rep F x):Rep (b7j F) (d7r x):=Rep.ml (rep_qg h) (c4c h)
theorem rep_qh{F:Nat→Nat}{x:Nat}(h:Rep F x):Rep (e8j F) (m_qh x):=Rep.sn (c3y h) 50
theorem c9g{F:Nat→Nat}{x:Nat}(h:Rep F x):Rep (b3v F) (c8b x):=Rep.ml (rep_qh h) (c3y h)
theorem rep_qi{F:Nat→Nat}{x:Nat}(h:Rep F x):Rep (e8a F) (m_qi x):=Rep.sn (c9g h) 100
theorem rep_qj{F:Nat→Nat}{x:Nat}(h:Rep F x):Rep (e8e F) (m_qj x):=Rep.ml (rep_qi h) (c9g h)
theorem rep_qk{F:Nat→Nat}{x:Nat}(h:Rep F x):Rep (e8g F) (m_qk x):=Rep.sn (rep_qj h) 50
theorem e1t{F:Nat→Nat}{x:Nat}(h:Rep F x):Rep (c3q F) (m_nn x):=Rep.ml (rep_qk h) (c3y h)
theorem e1w(x:Nat):Pw x 2 (e0d x):=(Pw.ml (Pw.one x) (Pw.one x)).to (by decide +kernel)
theorem pw_qa(x:Nat):Pw x 8 (m_qa x):=(Pw.sn (e1w x) 2).to (by decide +kernel)
theorem d7q(x:Nat):Pw x 9 (c6i x):=(Pw.ml (pw_qa x) (Pw.one x)).to (by decide +kernel)
theorem c4z(x:Nat):Pw x 11 (c2b x):=(Pw.ml (d7q x) (e1w x)).to (by decide +kernel)
theorem pw_qb(x:Nat):Pw x 22 (m_qb x):=(Pw.ml (c4z x) (c4z x)).to (by decide +kernel)
theorem pw_n5(x:Nat):Pw x 31 (m_n5 x):=(Pw.ml (pw_qb x) (d7q x)).to (by decide +kernel)
theorem pw_qc(x:Nat):Pw x 992 (m_qc x):=(Pw.sn (pw_n5 x) 5).to (by decide +kernel)
theorem d4t(x:Nat):Pw x 1023 (d4r x):=(Pw.ml (pw_qc x) (pw_n5 x)).to (by decide +kernel)
theorem pw_qd(x:Nat):Pw x 1047552 (m_qd x):=(Pw.sn (d4t x) 10).to (by decide +kernel)
theorem e3m(x:Nat):Pw x 1048575 (d9p x):=(Pw.ml (pw_qd x) (d4t x)).to (by decide +kernel)
theorem pw_qe(x:Nat):Pw x 1099510579200 (m_qe x):=(Pw.sn (e3m x) 20).to (by decide +kernel)
theorem pw_qf(x:Nat):Pw x 1099511627775 (m_qf x):=(Pw.ml (pw_qe x) (e3m x)).to (by decide +kernel)
theorem pw_qg(x:Nat):Pw x 1125899906841600 (m_qg x):=(Pw.sn (pw_qf x) 10).to (by decide +kernel)
theorem d7h(x:Nat):Pw x 1125899906842623 (d7r x):=(Pw.ml (pw_qg x) (d4t x)).to (by decide +kernel)
theorem pw_qh(x:Nat):Pw x 1267650600228228275596796362752 (m_qh x):=(Pw.sn (d7h x) 50).to (by decide +kernel)
theorem d5u(x:Nat):Pw x 1267650600228229401496703205375 (c8b x):=(Pw.ml (pw_qh x) (d7h x)).to (by decide +kernel)
theorem pw_qi(x:Nat):Pw x 1606938044258990275541962092339894951921974764381296132096000 (m_qi x):=(Pw.sn (d5u x) 100).to (by decide +kernel)
theorem pw_qj(x:Nat):Pw x 1606938044258990275541962092341162602522202993782792835301375 (m_qj x):=(Pw.ml (pw_qi x) (d5u x)).to (by decide +kernel)
theorem pw_qk(x:Nat):Pw x 1809251394333065553493296640760748560207343510400633813116523624223735808000 (m_qk x):=(Pw.sn (pw_qj x) 50).to (by decide +kernel)
theorem pw_nn(x:Nat):Pw x 1809251394333065553493296640760748560207343510400633813116524750123642650623 (m_nn x):=(Pw.ml (pw_qk x) (d7h x)).to (by decide +kernel)
def c0y(F:Nat→Nat):Nat→Nat:=mlF (sqn 5 (c3q F)) (a8w F)
def b7s(x:Nat):Nat:=mlM (sqM 5 (m_nn x)) (c2b x)
theorem b4p{F:Nat→Nat}(h:Lim F):Lim (c0y F):=a0i (a5d (b0c h) 5) (a9s h)
theorem Rep.inv{F:Nat→Nat}{x:Nat}(h:Rep F x):Rep (c0y F) (b7s x):=((e1t h).sn 5).ml (c6r h)
theorem e5x(x:Nat):Pw x 57896044618658097711785492504343953926634992332820282019728792003956564819947 (b7s x):=(((pw_nn x).sn 5).ml (c4z x)).to (by decide +kernel)
def b0n(F:Nat→Nat):Nat→Nat:=mlF (sqn 2 (c3q F)) (sqF F)
def c5v(x:Nat):Nat:=mlM (sqM 2 (m_nn x)) (mlM x x)
theorem b9g{F:Nat→Nat}(h:Lim F):Lim (b0n F):=a0i (a5d (b0c h) 2) (b5m h)
theorem Rep.try{F:Nat→Nat}{x:Nat}(h:Rep F x):Rep (b0n F) (c5v x):=((e1t h).sn 2).ml h.sq
theorem e6k(x:Nat):Pw x 7237005577332262213973186563042994240829374041602535252466099000494570602494 (c5v x):=(((pw_nn x).sn 2).ml ((Pw.one x).ml (Pw.one x))).to (by decide +kernel)
end Go.Proofs.YtdbngnlpafcogaaGreat
namespace Go.Proofs.YtdbngnlpafcogaaGreat
open Go.RowKit Go.Mem Go.Txt
set_option maxHeartbeats 1600000 in
theorem d5q(F:Nat→Nat)(hF:Lim F)(w:World) :
 Calls Tryz.prog 98 #[el F] w fun e w'=>e= .returned (el (c0y F))∧Kept [] w w':=by
 have co:=fun W=>c8i F hF W
 have c5:SnC 5 (c3q F) (sqn 5 (c3q F)):=a7g 5 _ (b0c hF) (by decide);have cm:MlC (sqn 5 (c3q F)) (a8w F) (c0y F):=a4i _ _ (a5d (b0c hF) 5) (a9s hF);generalize c3q F=nn,a8w F=ee,c0y F=rr at *;generalize sqn 5 nn=n5 at *;replace co:=hjd co;replace c5:=hjd c5;replace cm:=hjd cm;clear hF;go_enter Tryz.func98,Tryz.ntmps98;go_wp2_with (first
  | ((with_reducible refine a0q (o:=⟨some 1,_,_,_,_,_⟩) (v:=el F) rfl (.tmp 0) rfl rfl ?_);intro g1 w1 m1)
  | ((with_reducible refine a0h (o:=⟨some 2,_,_,_,_,_⟩) rfl rfl a1b ?_);intro g2 w2 m2;have H:=hjd (Els.none w2);have D:=hjd (And.intro (Nat.le_trans m1.kept.size m2.le) (And.intro m1.le (And.intro (m2.ne m1.blk.lt) (m1.kept.a0g m2.kept))));have B1:=hjd (m1.blk.kept m2.kept (by simp));have B2:=hjd m2.blk;clear m1 m2)
  | (with_reducible refine a0d (o:=⟨some 6,_,_,_,_,_⟩) a0c rfl (.tmp 1) rfl rfl (B1.out.kept H.out.k (by simp)) rfl ?_)
  | (go_at_call 154;refine(co.out _).mono ?_;rintro e u1 ⟨rfl,kk⟩;have H:=hjd (H.out.kept kk);clear kk)
  | ((with_reducible refine a0h (o:=⟨some 3,_,_,_,_,_⟩) rfl rfl a1b ?_);intro q3 x3 m3;have H:=hjd (H.out.put m3 m3.blk (Kept.refl _ _));clear m3)
  | ((with_reducible refine a0h (o:=⟨some 4,_,_,_,_,_⟩) rfl rfl a1b ?_);intro q4 x4 m4;have N:=hjd (m4.ne (H.out.s (q3,a0j) (by simp)).lt);have H:=hjd (H.out.put m4 m4.blk (Kept.refl _ _));clear m4)
  | ((with_reducible refine a0a (o:=⟨none,.store 70 (.tmp 3) (.tmp 8),_,_,_,_⟩) a0c rfl (.tmp 3) (.tmp 8) rfl rfl rfl (H.out.s (q3,a0j) (by simp)) rfl rfl (a0u _) ?_);intro v3 b3 k3;have B4:=hjd ((H.out.s (q4,a0j) (by simp)).kept k3 (by simpa using Ne.symm N.out)))
  | ((with_reducible refine a0a (o:=⟨none,.store 70 (.tmp 4) (.tmp 9),_,_,_,_⟩) a0c rfl (.tmp 4) (.tmp 9) rfl rfl rfl B4.out rfl rfl (a0u _) ?_);intro v4 b4 k4))
 have f3:=H.out.f (q3,a0j) (by simp);have f4:=H.out.f (q4,a0j) (by simp)
 have E:=hjd (show Els w2 [(q4,ee),(q3,nn)] v4 from
  ((show Els w2 [] v4 from⟨fun _ h=>absurd h (by simp),fun _ h=>absurd h (by simp),(H.out.k.a0r k3 f3).a0r k4 f4⟩).cons (b3.kept k4 (by simpa using N.out)) f3).cons b4 f4)
 clear b3 k3 b4 k4 H f3 f4;have H:=hjd (E.out.fin B2.out B1.out (Ne.symm D.out.2.2.1));refine Txt.a1k [0,2] (Fin w2 g2 g1 [(q4,ee),(q3,nn)]) [[_,_],[_,_],[_],[]] (by kernel_rfl) (by kernel_rfl) rfl (H.out.kept (Kept.refl [] _).drew) (Txt.a0e ?_);have H:=hjd (H.out.kept (Kept.refl [] v4).drew);go_wp2_with (first
  | (with_reducible refine a0d (o:=⟨some 10,_,_,_,_,_⟩) a0c rfl (.tmp 3) rfl rfl (H.out.s (q3,nn) (by simp)) rfl ?_)
  | (go_at_call 155;refine(c5.out _).mono ?_;rintro e u5 ⟨rfl,kk⟩;have H:=hjd (H.out.kept kk);clear kk))
 refine⟨rfl,H.out,Txt.a0e ?_⟩;go_wp2_with (first
  | (with_reducible refine a0d (o:=⟨some 12,_,_,_,_,_⟩) a0c rfl (.tmp 4) rfl rfl (H.out.s (q4,ee) (by simp)) rfl ?_)
  | (go_at_call 99;refine(cm.out _).mono ?_;rintro e u6 ⟨rfl,kk⟩;have H:=hjd (H.out.kept kk);clear kk))
 refine⟨rfl,H.out,Txt.a0e ?_⟩;go_wp2_with (obtain⟨f2,hf2⟩:=H.out.b2;(with_reducible refine a0a (o:=⟨none,.store 70 (.tmp 2) (.tmp 13),_,_,_,_⟩) a0c rfl (.tmp 2) (.tmp 13) rfl rfl rfl hf2 rfl rfl (a0u _) ?_);clear hf2;intro v2 b2 k2;have H:=hjd (H.out.put2 b2 k2);have C2:=hjd b2;clear b2 k2);refine⟨rfl,H.out,Txt.a0e ?_⟩;go_wp2_with fail;refine⟨rfl,H.out,Txt.a0w ⟨⟨by kernel_rfl,?_⟩,?_⟩⟩
 ·intro j hj o ho _;have hj2:j=0∨j=2:=by simpa using hj
  rcases hj2 with rfl | rfl <;> cases ho
  ·exact⟨10,rfl,fun u hu=>a1c a0c (.tmp 3) rfl rfl (hu.s (q3,nn) (by simp)) rfl⟩
  ·exact⟨12,rfl,fun u hu=>a1c a0c (.tmp 4) rfl rfl (hu.s (q4,ee) (by simp)) rfl⟩
 go_wp2_with fail
 exact a1m a0c rfl rfl C2.out rfl rfl ⟨rfl,(D.out.2.2.2).fresh H.out.k (fun x hx=>by simp at hx;rcases hx with rfl | rfl;exact D.out.1;exact D.out.2.1)⟩
end Go.Proofs.YtdbngnlpafcogaaGreat
namespace Go.Proofs.YtdbngnlpafcogaaGreat
open Go.RowKit Go.Mem Go.Txt
def m1F(i:Nat):Nat:=if i=0 then 1718705420411056 else if i=1 then 234908883556509 else if i=2 then 2233514472574048 else if i=3 then 2117202627021982 else 765476049583133
def M1:Nat:=19681161376707505956807079304988542015446066515923890162744021073123829784752
theorem d4c:Lim m1F:=by
 intro i _;unfold m1F
 repeat' split
 all_goals decide
theorem m1_val:fv m1F=M1:=by decide +kernel
theorem rep_m1:Rep m1F M1:=⟨d4c,by rw [m1_val]⟩
set_option maxHeartbeats 800000 in
theorem c2n(w:World):Calls Tryz.prog 165 #[] w fun e w'=>e= .returned (el m1F)∧Kept [] w w':=by
 go_enter Tryz.func165,Tryz.ntmps165;go_wp2_with (first
  | ((with_reducible refine a0h (o:=⟨some 0,_,_,_,_,_⟩) rfl rfl a1b ?_);intro g1 w1 m1)
  | (refine a0a (cs:=(uv (fam 5 m1F)).toArray) a0c rfl (.tmp 0) (.tmp 2) rfl rfl (by rfl) m1.blk rfl rfl (a0u _) ?_;intro w8 b8 k8))
 exact a1m a0c rfl rfl b8 rfl rfl ⟨rfl,m1.kept.a0r k8 m1.le⟩
theorem byte0(x:Nat):(bv (le x 32)).toArray[0]?=some (.int .u8 ((x % 256:Nat):Int)):=by
 have h:=b3z x 32 0 (by omega);have e:(le x 32)[0]?=some (UInt8.ofNat (x % 256)):=by
  rw [List.getElem?_eq_getElem (by rw [a0x];omega),h];simp
 simp only [bv,List.getElem?_toArray,List.getElem?_map,e,Option.map_some];show some (Value.int .u8 (((UInt8.ofNat (x % 256)).toNat:Nat):Int))=_;rw [UInt8.toNat_ofNat',show x % 256 % 2 ^ 8=x % 256 from by omega]
set_option maxHeartbeats 800000 in
theorem d2q(F:Nat→Nat)(w:World)(hF:Lim F):Calls Tryz.prog 101 #[el F] w fun e w'=>e= .returned (.bool (decide (fv F % PP % 2=1)))∧Kept [] w w':=by
 have hh:=hjd (fun W=>a5c F W hF);obtain⟨X,hX⟩:∃X,X=fv F % PP:=⟨_,rfl⟩;rw [←hX]at hh ⊢;obtain⟨b,hb⟩:∃b,b=X % 256:=⟨_,rfl⟩;have hi:∀W,(Instr.index 22 (ab (le X 32)) (.int .i64 0)).run Tryz.prog W= .ok (.int .u8 ((b:Nat):Int)) W:=fun W=>by
  have:=a6f a2u Tryz.underlying5 rfl (by kernel_rfl) .i64 0 (by omega) (byte0 X) W;rw [←hb]at this;exact this
 have hlt:b < 256:=by omega
 have hm:bits .and .u8 ((b:Nat):Int) 1=((b:Nat):Int) % 2:=bits_mask .u8 8 (by decide) wraps_u8 1 (by decide) _ (by omega) (by omega);rcases Nat.mod_two_eq_zero_or_one X with h | h
 ·have hm2:bits .and .u8 ((b:Nat):Int) 1=0:=by rw [hm];omega
  have hd:decide (X % 2=1)=false:=by simp [h]
  rw [hd];clear hd hm h hb hX hF;go_enter Tryz.func101,Tryz.ntmps101;go_wp2_with (first
   | ((with_reducible refine a0q (o:=⟨some 1,_,_,_,_,_⟩) (v:=el F) rfl (.tmp 0) rfl rfl ?_);intro g1 w1 m1)
   | (with_reducible refine a0d (o:=⟨some 3,_,_,_,_,_⟩) a0c rfl (.tmp 1) rfl rfl m1.blk rfl ?_)
   | (go_at_call 100;refine(hh.out _).mono ?_;rintro e u1 ⟨rfl,kk⟩;have H:=hjd (m1.kept.a0g kk);clear kk m1))
  go_ret;exact⟨rfl,H.out⟩
 ·have hm2:bits .and .u8 ((b:Nat):Int) 1=1:=by rw [hm];omega
  have hd:decide (X % 2=1)=true:=by simp [h]
  rw [hd];clear hd hm h hb hX hF;go_enter Tryz.func101,Tryz.ntmps101;go_wp2_with (first
   | ((with_reducible refine a0q (o:=⟨some 1,_,_,_,_,_⟩) (v:=el F) rfl (.tmp 0) rfl rfl ?_);intro g1 w1 m1)
   | (with_reducible refine a0d (o:=⟨some 3,_,_,_,_,_⟩) a0c rfl (.tmp 1) rfl rfl m1.blk rfl ?_)
   | (go_at_call 100;refine(hh.out _).mono ?_;rintro e u1 ⟨rfl,kk⟩;have H:=hjd (m1.kept.a0g kk);clear kk m1))
  go_ret;exact⟨rfl,H.out⟩
end Go.Proofs.YtdbngnlpafcogaaGreat
namespace Go.Proofs.YtdbngnlpafcogaaGreat
open Go.RowKit Go.Mem Go.Txt
theorem d1g(xs:Array Value)(w:World):(callFunc 98 xs).run Tryz.prog w= .ok (.enter 98 xs) w:=enters_of (c:=_) Tryz.func98 (by kernel_rfl) rfl xs w
theorem d7f(xs:Array Value)(w:World):(callFunc 165 xs).run Tryz.prog w= .ok (.enter 165 xs) w:=enters_of (c:=_) Tryz.func165 (by kernel_rfl) rfl xs w
theorem a5k{P:Program}{w:World}{o:Oper}{a:Act}{C:Act→World→Prop}{R:Exit→Act→World→Prop}{t:TypeId}{n:Nat}(T:RowT P t n)(x y:Operand)(ho:o.op= .store t x y){g:Nat}{cs old:Array Value}(hx:a.eval x= .pointer (some ⟨g,0,none⟩))(hy:a.eval y= .agg cs)
 {bt:TypeId} (hb:Blk w g bt old) (hold:old.size=n) (hn:cs.size=n) (h1:cs.all (·.oneCell')=true) (h:C (a.put o.dst undef) (w.setRow g cs)):o.wp P a w C R:=
 wp_store_row t x y ho g cs hx hy bt old hb (by rw [T.size,hn]) (by omega) h1 h
theorem a7z:Tryz.prog.built 70 []=some (uv (fam 5 a0j)).toArray:=by kernel_rfl
theorem c4f:Tryz.prog.built 22 []=some (bv (a0m 32)).toArray:=by kernel_rfl
theorem le_zero:le 0 32=a0m 32:=by decide +kernel
theorem c7j(x y:Nat)(hx:x < PP)(hy:y < PP):(le x 32 == le y 32)=decide (x=y):=by
 by_cases h:x=y
 ·subst h;simp
 ·have:le x 32≠le y 32:=fun e=>h (by
   have h1:=a6z 32 x;have h2:=a6z 32 y;rw [e,h2]at h1;unfold PP at hx hy;omega)
  simp [h,this]
theorem d4h(x y:Nat)(hx:x < PP)(hy:y < PP)(W:World):(Op.equalIn 10000 22 (ab (le x 32)) (ab (le y 32))).run Tryz.prog W= .ok (decide (x=y)) W:=by
 have:=a3r a2u Tryz.underlying5 (by kernel_rfl) (le x 32) (le y 32) (a0x _ _) (a0x _ _) W
 rwa [c7j x y hx hy]at this
def rtW(U V:Nat→Nat):Nat→Nat:=mlF U (c0y V)
def rtX(U V:Nat→Nat):Nat→Nat:=if fv (mlF (b0n (rtW U V)) (b0n (rtW U V))) % PP=fv (rtW U V) % PP then b0n (rtW U V)else mlF (b0n (rtW U V)) m1F
def rtB(U V:Nat→Nat):Bool:=decide (fv V % PP≠0) && decide (fv (mlF (rtX U V) (rtX U V)) % PP=fv (rtW U V) % PP)
def rtF(U V:Nat→Nat):Nat→Nat:=if rtB U V then(if fv (rtX U V) % PP % 2=1 then a5l (b1h a0j (rtX U V))else rtX U V)else a0j
theorem a7l:Lim a0j:=fun _ _=>by unfold a0j;omega
theorem c4b{U V:Nat→Nat}(hU:Lim U)(hV:Lim V):Lim (rtW U V):=a0i hU (b4p hV)
theorem d5a{U V:Nat→Nat}(hU:Lim U)(hV:Lim V):Lim (rtX U V):=by
 unfold rtX;split
 ·exact b9g (c4b hU hV)
 ·exact a0i (b9g (c4b hU hV)) d4c
abbrev HaC(F:Nat→Nat)(x:Nat):Prop:=∀W,Calls Tryz.prog 100 #[el F] W fun e w'=>e= .returned (ab (le x 32))∧Kept [] W w'
abbrev OdC(F:Nat→Nat)(b:Bool):Prop:=∀W,Calls Tryz.prog 101 #[el F] W fun e w'=>e= .returned (.bool b)∧Kept [] W w'
abbrev SuC(F G R:Nat→Nat):Prop:=∀W,Calls Tryz.prog 116 #[el F,el G] W fun e w'=>e= .returned (el R)∧Kept [] W w'
structure RtM (w3:World) (q6 q9:Nat) (W X:Nat→Nat) (u:World):Prop where
 w:Blk u q6 70 (uv (fam 5 W)).toArray
 x:Blk u q9 70 (uv (fam 5 X)).toArray
 k:Kept [] w3 u
theorem RtM.kept{w3:World}{q6 q9:Nat}{W X:Nat→Nat}{u u':World}(h:RtM w3 q6 q9 W X u)(hk:Kept [] u u'):RtM w3 q6 q9 W X u':=⟨h.w.kept hk (by simp),h.x.kept hk (by simp),h.k.a0g hk⟩
theorem RtM.put{w3:World}{q6 q9:Nat}{W X Y:Nat→Nat}{u u':World}(h:RtM w3 q6 q9 W X u)(n:q6≠q9∧w3.heap.size≤q9)(b:Blk u' q9 70 (uv (fam 5 Y)).toArray)(hk:Kept [q9] u u'):RtM w3 q6 q9 W Y u':=⟨h.w.kept hk (by simpa using n.1),b,h.k.a0r hk n.2⟩
set_option maxHeartbeats 4000000 in
theorem b2p(U V:Nat→Nat)(hU:Lim U)(hV:Lim V)(w:World) :
 Calls Tryz.prog 115 #[el U,el V] w fun e w'=>e= .returned (.tuple #[el (rtF U V),.bool (rtB U V)])∧Kept [] w w':=by
 have hhv:HaC V (fv V % PP):=fun W=>a5c V W hV
 obtain⟨Z,hZ⟩:∃Z,Z=a0m 32:=⟨_,rfl⟩;have hbb:Tryz.prog.built 22 []=some (bv Z).toArray:=by rw [hZ];exact c4f
 have eqv:∀W,(Op.equalIn 10000 22 (ab (le (fv V % PP) 32)) (ab Z)).run Tryz.prog W= .ok (decide (fv V % PP=0)) W:=fun W=>by
  rw [hZ,←le_zero];exact d4h _ _ (Nat.mod_lt _ a3l) a3l W
 clear hZ;by_cases hv:fv V % PP=0
 ·have hB:rtB U V=false:=by unfold rtB;simp [hv]
  have hF:rtF U V=a0j:=by unfold rtF;rw [hB];rfl
  rw [hB,hF];rw [decide_eq_true hv]at eqv;generalize fv V % PP=v at *;clear hB hF hU hV hv;replace hhv:=hjd hhv;replace hbb:=hjd hbb;go_enter Tryz.func115,Tryz.ntmps115;go_wp2_with (first
   | ((with_reducible refine a0q (o:=⟨some 2,_,_,_,_,_⟩) (v:=el U) rfl (.tmp 0) rfl rfl ?_);intro g2 w1 m1)
   | ((with_reducible refine a0q (o:=⟨some 3,_,_,_,_,_⟩) (v:=el V) rfl (.tmp 1) rfl rfl ?_);intro g3 w2 m2)
   | ((with_reducible refine a0h (o:=⟨some 4,_,_,_,_,_⟩) rfl rfl a1b ?_);intro g4 w3 m3;have B3:=hjd (m2.blk.kept m3.kept (by simp));have B4:=hjd m3.blk;have D:=hjd (And.intro (Nat.le_trans (m1.kept.a0g m2.kept).size m3.le) ((m1.kept.a0g m2.kept).a0g m3.kept));clear m1 m2 m3)
   | (with_reducible refine a0d (o:=⟨some 10,_,_,_,_,_⟩) a0c rfl (.tmp 3) rfl rfl B3.out rfl ?_)
   | (go_at_call 100;refine(hhv.out _).mono ?_;rintro e u1 ⟨rfl,kk⟩;have B4:=hjd (B4.out.kept kk (by simp));have K4:=hjd (D.out.2.a0g kk);clear kk)
   | (with_reducible refine a0y (o:=⟨some 12,_,_,_,_,_⟩) rfl rfl hbb.out ?_)
   | (with_reducible refine a0y (o:=⟨some 14,_,_,_,_,_⟩) rfl rfl a7z ?_)
   | ((with_reducible refine a0a (o:=⟨none,.store 70 (.tmp 4) (.tmp 14),_,_,_,_⟩) a0c rfl (.tmp 4) (.tmp 14) rfl rfl rfl B4.out rfl rfl (a0u _) ?_);intro v4 b4 k4))
  exact a1j a0c rfl rfl b4 rfl rfl ⟨rfl,K4.out.a0r k4 D.out.1⟩
 ·have nv:decide (fv V % PP≠0)=true:=by simp [hv]
  have ci:∀W,Calls Tryz.prog 98 #[el V] W fun e w'=>e= .returned (el (c0y V))∧Kept [] W w':=fun W=>d5q V hV W
  have cm:MlC U (c0y V) (rtW U V):=a4i _ _ hU (b4p hV);have hW:=c4b hU hV;have co:=fun W=>c8i (rtW U V) hW W
  have c2:SnC 2 (c3q (rtW U V)) (sqn 2 (c3q (rtW U V))):=a7g 2 _ (b0c hW) (by decide);have cs:SqC (rtW U V) (sqF (rtW U V)):=c0i _ hW;have ct:MlC (sqn 2 (c3q (rtW U V))) (sqF (rtW U V)) (b0n (rtW U V)):=a4i _ _ (a5d (b0c hW) 2) (b5m hW);have hX0:=b9g hW;have cq:MlC (b0n (rtW U V)) (b0n (rtW U V)) (mlF (b0n (rtW U V)) (b0n (rtW U V))):=a4i _ _ hX0 hX0;have hs0:HaC (mlF (b0n (rtW U V)) (b0n (rtW U V))) (fv (mlF (b0n (rtW U V)) (b0n (rtW U V))) % PP):=fun W=>a5c _ W (a0i hX0 hX0)
  have hw0:HaC (rtW U V) (fv (rtW U V) % PP):=fun W=>a5c _ W hW
  have c1:=c2n;have cm1:MlC (b0n (rtW U V)) m1F (mlF (b0n (rtW U V)) m1F):=a4i _ _ hX0 d4c;have hX1:=d5a hU hV;have cq1:MlC (rtX U V) (rtX U V) (mlF (rtX U V) (rtX U V)):=a4i _ _ hX1 hX1;have hs1:HaC (mlF (rtX U V) (rtX U V)) (fv (mlF (rtX U V) (rtX U V)) % PP):=fun W=>a5c _ W (a0i hX1 hX1)
  have cod:OdC (rtX U V) (decide (fv (rtX U V) % PP % 2=1)):=fun W=>d2q _ W hX1
  have csu:SuC a0j (rtX U V) (a5l (b1h a0j (rtX U V))):=fun W=>c6a _ _ W a7l hX1
  have qq0:=c7j (fv (mlF (b0n (rtW U V)) (b0n (rtW U V))) % PP) (fv (rtW U V) % PP) (Nat.mod_lt _ a3l) (Nat.mod_lt _ a3l);have qq1:=c7j (fv (mlF (rtX U V) (rtX U V)) % PP) (fv (rtW U V) % PP) (Nat.mod_lt _ a3l) (Nat.mod_lt _ a3l);have eq0:=d4h (fv (mlF (b0n (rtW U V)) (b0n (rtW U V))) % PP) (fv (rtW U V) % PP) (Nat.mod_lt _ a3l) (Nat.mod_lt _ a3l);have eq1:=d4h (fv (mlF (rtX U V) (rtX U V)) % PP) (fv (rtW U V) % PP) (Nat.mod_lt _ a3l) (Nat.mod_lt _ a3l);have hxx:rtX U V=if decide (fv (mlF (b0n (rtW U V)) (b0n (rtW U V))) % PP=fv (rtW U V) % PP)=true then b0n (rtW U V)else mlF (b0n (rtW U V)) m1F:=by simp only [decide_eq_true_eq];rfl
  have hB:rtB U V=decide (fv (mlF (rtX U V) (rtX U V)) % PP=fv (rtW U V) % PP):=by unfold rtB;rw [nv,Bool.true_and]
  have hF:rtF U V=if rtB U V then(if decide (fv (rtX U V) % PP % 2=1)=true then a5l (b1h a0j (rtX U V))else rtX U V)else a0j:=by simp only [decide_eq_true_eq];rfl
  rw [hB]at hF;rw [hB,hF];rw [decide_eq_false hv]at eqv;clear hB hF hW hX0 hX1 nv hv hU hV;generalize decide (fv (mlF (b0n (rtW U V)) (b0n (rtW U V))) % PP=fv (rtW U V) % PP)=t0 at *;generalize decide (fv (mlF (rtX U V) (rtX U V)) % PP=fv (rtW U V) % PP)=t1 at *;generalize decide (fv (rtX U V) % PP % 2=1)=od at *;generalize fv (mlF (b0n (rtW U V)) (b0n (rtW U V))) % PP=s0,fv (mlF (rtX U V) (rtX U V)) % PP=s1,fv (rtW U V) % PP=w0,fv V % PP=v at *;generalize mlF (rtX U V) (rtX U V)=S1,a5l (b1h a0j (rtX U V))=X2 at *;generalize rtX U V=X1 at *;generalize mlF (b0n (rtW U V)) (b0n (rtW U V))=S0,mlF (b0n (rtW U V)) m1F=XM at *;generalize b0n (rtW U V)=X0 at *;generalize sqn 2 (c3q (rtW U V))=n2,sqF (rtW U V)=sw at *;generalize c3q (rtW U V)=nn,a8w (rtW U V)=ee at *;generalize rtW U V=W,c0y V=I at *;replace hhv:=hjd hhv;replace hbb:=hjd hbb;replace ci:=hjd ci;replace cm:=hjd cm;replace co:=hjd co;replace c2:=hjd c2;replace cs:=hjd cs;replace ct:=hjd ct;replace cq:=hjd cq;replace hs0:=hjd hs0;replace hw0:=hjd hw0;replace c1:=hjd c1;replace cm1:=hjd cm1;replace cq1:=hjd cq1;replace hs1:=hjd hs1;replace cod:=hjd cod;replace csu:=hjd csu;replace hxx:=hjd hxx;replace qq0:=hjd qq0;replace qq1:=hjd qq1;go_enter Tryz.func115,Tryz.ntmps115;go_wp2_with (first
   | ((with_reducible refine a0q (o:=⟨some 2,_,_,_,_,_⟩) (v:=el U) rfl (.tmp 0) rfl rfl ?_);intro g2 w1 m1)
   | ((with_reducible refine a0q (o:=⟨some 3,_,_,_,_,_⟩) (v:=el V) rfl (.tmp 1) rfl rfl ?_);intro g3 w2 m2)
   | ((with_reducible refine a0h (o:=⟨some 4,_,_,_,_,_⟩) rfl rfl a1b ?_);intro g4 w3 m3;have H:=hjd (Els.none w3);have B2:=hjd ((m1.blk.kept m2.kept (by simp)).kept m3.kept (by simp));have B3:=hjd (m2.blk.kept m3.kept (by simp));have B4:=hjd m3.blk;have D:=hjd (And.intro (Nat.le_trans (m1.kept.a0g m2.kept).size m3.le) ((m1.kept.a0g m2.kept).a0g m3.kept));clear m1 m2 m3)
   | (with_reducible refine a0d (o:=⟨some 10,_,_,_,_,_⟩) a0c rfl (.tmp 3) rfl rfl (B3.out.kept H.out.k (by simp)) rfl ?_)
   | (go_at_call 100;(with_reducible refine(hhv.out _).mono ?_);rintro e u1 ⟨rfl,kk⟩;have H:=hjd (H.out.kept kk);clear kk)
   | (with_reducible refine a0y (o:=⟨some 12,_,_,_,_,_⟩) rfl rfl hbb.out ?_))
  refine a2m (by kernel_rfl) [.val (el U),.val (el V),.val (el I),.val (el W),.new 70 (el a0j),.put 4 3 (uv (fam 5 W)).toArray] (Els w3 []) (by kernel_rfl) (by kernel_rfl) H.out.drew (H.out.fresh) ?_ ?_
  ·refine⟨?_,?_,?_,?_,?_,?_,trivial⟩
   ·exact⟨⟨_,rfl⟩,fun a' u K0 R hS hr ho h=>a0o a0c (.tmp 2) rfl ((ho 2 (by decide)).trans rfl) (B2.out.kept hS.k (by simp)) rfl (h u (Kept.refl _ _))⟩
   ·exact⟨⟨_,rfl⟩,fun a' u K0 R hS hr ho h=>a0o a0c (.tmp 3) rfl ((ho 3 (by decide)).trans rfl) (B3.out.kept hS.k (by simp)) rfl (h u (Kept.refl _ _))⟩
   ·refine⟨⟨_,rfl⟩,fun a' u K0 R hS hr ho h=>?_⟩;refine a0n rfl d1g (vs:=#[el V]) ?_ (ci.out u) h;have h0:=hr 1 (el V) 16 _ rfl rfl rfl ⟨⟨1,.data⟩,by simp,rfl,rfl⟩;simp [Act.eval]at h0 ⊢;exact h0
   ·refine⟨⟨_,rfl⟩,fun a' u K0 R hS hr ho h=>?_⟩;refine a0n rfl a1e (vs:=#[el U,el I]) ?_ (cm.out u) h;have h0:=hr 0 (el U) 15 _ rfl rfl rfl ⟨⟨0,.data⟩,by simp,rfl,rfl⟩;have h1:=hr 2 (el I) 17 _ rfl rfl rfl ⟨⟨2,.data⟩,by simp,rfl,rfl⟩;simp [Act.eval]at h0 h1 ⊢;exact⟨h0,h1⟩
   ·exact⟨⟨_,rfl⟩,rfl,a1b⟩
   ·exact⟨rfl,⟨⟨4,.data⟩,by simp,rfl,rfl⟩,⟨⟨3,.data⟩,by simp,rfl,rfl⟩,_,_,_,_,_,_,_,_,rfl,rfl,rfl,rfl,rfl,rfl,rfl,a0c,rfl,rfl,a0u _⟩
  intro γ r3 hS hγ hne hput;have hl:=Nat.le_trans H.out.k.size (hγ 4 _ _ rfl);have b:=hput 5 4 3 _ _ _ rfl rfl;generalize e7:γ 4=q6 at *;simp [a1f,VK,List.range,List.range.loop,Act.put,e7];have H:=hjd (hS.cons b hl);clear b hl hput hne hγ hS e7;go_wp2_with (first
   | (with_reducible refine a0d (o:=⟨some 20,_,_,_,_,_⟩) a0c rfl (.tmp 6) rfl rfl (H.out.s (q6,W) (by simp)) rfl ?_)
   | (go_at_call 154;(with_reducible refine(co.out _).mono ?_);rintro e u2 ⟨rfl,kk⟩;have H:=hjd (H.out.kept kk);clear kk)
   | ((with_reducible refine a0h (o:=⟨some 7,_,_,_,_,_⟩) rfl rfl a1b ?_);intro q7 x7 m7;have N7:=hjd (m7.ne (H.out.s (q6,W) (by simp)).lt);have H:=hjd (H.out.put m7 m7.blk (Kept.refl _ _));clear m7)
   | ((with_reducible refine a0h (o:=⟨some 8,_,_,_,_,_⟩) rfl rfl a1b ?_);intro q8 x8 m8;have N:=hjd (And.intro (m8.ne (H.out.s (q7,a0j) (by simp)).lt) (m8.ne (H.out.s (q6,W) (by simp)).lt));have H:=hjd (H.out.put m8 m8.blk (Kept.refl _ _));clear m8)
   | ((with_reducible refine a0a (o:=⟨none,.store 70 (.tmp 7) (.tmp 22),_,_,_,_⟩) a0c rfl (.tmp 7) (.tmp 22) rfl rfl rfl (H.out.s (q7,a0j) (by simp)) rfl rfl (a0u _) ?_);intro v7 b7 k7;have B8:=hjd ((H.out.s (q8,a0j) (by simp)).kept k7 (by simpa using Ne.symm N.out.1)))
   | ((with_reducible refine a0a (o:=⟨none,.store 70 (.tmp 8) (.tmp 23),_,_,_,_⟩) a0c rfl (.tmp 8) (.tmp 23) rfl rfl rfl B8.out rfl rfl (a0u _) ?_);intro v8 b8 k8))
  have f6:=H.out.f (q6,W) (by simp);have f7:=H.out.f (q7,a0j) (by simp);have f8:=H.out.f (q8,a0j) (by simp)
  have E:=hjd (show Els w3 [(q7,nn),(q6,W)] v8 from
   ((show Els w3 [] v8 from⟨fun _ h=>absurd h (by simp),fun _ h=>absurd h (by simp),(H.out.k.a0r k7 f7).a0r k8 f8⟩).cons (((H.out.s (q6,W) (by simp)).kept k7 (by simpa using N7.out)).kept k8 (by simpa using N.out.2)) f6).cons (b7.kept k8 (by simpa using N.out.1)) f7)
  clear b7 k7 b8 k8 H f6 f7 f8 N N7 B8;have H:=hjd E.out;refine a2m (by kernel_rfl) [.val (el nn),.val (el n2),.val (el W),.val (el sw),.val (el X0),.new 70 (el a0j),.put 5 4 (uv (fam 5 X0)).toArray] (Els w3 [(q7,nn),(q6,W)]) (by kernel_rfl) (by kernel_rfl) H.out.drew (H.out.fresh) ?_ ?_
  ·refine⟨?_,?_,?_,?_,?_,?_,?_,trivial⟩
   ·exact⟨⟨_,rfl⟩,fun a' u K0 R hS hr ho h=>a0o a0c (.tmp 7) rfl ((ho 7 (by decide)).trans rfl) (hS.s (q7,nn) (by simp)) rfl (h u (Kept.refl _ _))⟩
   ·refine⟨⟨_,rfl⟩,fun a' u K0 R hS hr ho h=>?_⟩;refine a0n rfl a3e (vs:=#[el nn,.int .i64 (2:Nat)]) ?_ (c2.out u) h;have h0:=hr 0 (el nn) 24 _ rfl rfl rfl ⟨⟨0,.data⟩,by simp,rfl,rfl⟩;simp [Act.eval]at h0 ⊢;exact h0
   ·exact⟨⟨_,rfl⟩,fun a' u K0 R hS hr ho h=>a0o a0c (.tmp 6) rfl ((ho 6 (by decide)).trans rfl) (hS.s (q6,W) (by simp)) rfl (h u (Kept.refl _ _))⟩
   ·refine⟨⟨_,rfl⟩,fun a' u K0 R hS hr ho h=>?_⟩;refine a0n rfl b1u (vs:=#[el W]) ?_ (cs.out u) h;have h0:=hr 2 (el W) 26 _ rfl rfl rfl ⟨⟨2,.data⟩,by simp,rfl,rfl⟩;simp [Act.eval]at h0 ⊢;exact h0
   ·refine⟨⟨_,rfl⟩,fun a' u K0 R hS hr ho h=>?_⟩;refine a0n rfl a1e (vs:=#[el n2,el sw]) ?_ (ct.out u) h;have h0:=hr 1 (el n2) 25 _ rfl rfl rfl ⟨⟨1,.data⟩,by simp,rfl,rfl⟩;have h1:=hr 3 (el sw) 27 _ rfl rfl rfl ⟨⟨3,.data⟩,by simp,rfl,rfl⟩;simp [Act.eval]at h0 h1 ⊢;exact⟨h0,h1⟩
   ·exact⟨⟨_,rfl⟩,rfl,a1b⟩
   ·exact⟨rfl,⟨⟨5,.data⟩,by simp,rfl,rfl⟩,⟨⟨4,.data⟩,by simp,rfl,rfl⟩,_,_,_,_,_,_,_,_,rfl,rfl,rfl,rfl,rfl,rfl,rfl,a0c,rfl,rfl,a0u _⟩
  intro γ r5 hS hγ hne hput;have hg:=hγ 5 _ _ rfl;have hl:=Nat.le_trans H.out.k.size hg;have b:=hput 6 5 4 _ _ _ rfl rfl;have n69:=(H.out.s (q6,W) (by simp)).lt;generalize e7:γ 5=q9 at *;simp [a1f,VK,List.range,List.range.loop,Act.put,e7];have N:=hjd (show q6≠q9∧w3.heap.size≤q9 from⟨by omega,hl⟩);have H:=hjd (show RtM w3 q6 q9 W X0 r5 from⟨hS.s (q6,W) (by simp),b,hS.k⟩);clear b hl hput hne hγ hS e7 hg n69;go_wp2_with fail
  cases t0 with
  | true=>
    refine Txt.a1k [0,1,4,6] (RtM w3 q6 q9 W X0) [[_,_,_],[_],[_,_],[_]] (by kernel_rfl) (by kernel_rfl) rfl (H.out.kept (Kept.refl [] _).drew) (Txt.a0e ?_);have H:=hjd (H.out.kept (Kept.refl [] _).drew);go_wp2_with (first
     | (with_reducible refine a0d (o:=⟨some 29,_,_,_,_,_⟩) a0c rfl (.tmp 9) rfl rfl H.out.x rfl ?_)
     | (with_reducible refine a0d (o:=⟨some 30,_,_,_,_,_⟩) a0c rfl (.tmp 9) rfl rfl H.out.x rfl ?_)
     | (go_at_call 99;refine(cq.out _).mono ?_;rintro e da ⟨rfl,kk⟩;have H:=hjd (H.out.kept kk);clear kk))
    refine⟨rfl,H.out,Txt.a0e ?_⟩;go_wp2_with (go_at_call 100;(with_reducible refine(hs0.out _).mono ?_);rintro e db ⟨rfl,kk⟩;have H:=hjd (H.out.kept kk);clear kk);refine⟨rfl,H.out,Txt.a0e ?_⟩;go_wp2_with (first
     | (with_reducible refine a0d (o:=⟨some 33,_,_,_,_,_⟩) a0c rfl (.tmp 6) rfl rfl H.out.w rfl ?_)
     | (go_at_call 100;refine(hw0.out _).mono ?_;rintro e dc ⟨rfl,kk⟩;have H:=hjd (H.out.kept kk);clear kk))
    refine⟨rfl,H.out,Txt.a0e ?_⟩;go_wp2_with fail;refine⟨rfl,H.out,Txt.a0w ⟨⟨by kernel_rfl,?_⟩,?_⟩⟩
    ·intro j hj o ho _;have hj2:j=0∨j=1∨j=4∨j=6:=by simpa using hj
     rcases hj2 with rfl | rfl | rfl | rfl <;> cases ho
     ·exact⟨29,rfl,fun u hu=>a1c a0c (.tmp 9) rfl rfl hu.x rfl⟩
     ·exact⟨30,rfl,fun u hu=>a1c a0c (.tmp 9) rfl rfl hu.x rfl⟩
     ·exact⟨33,rfl,fun u hu=>a1c a0c (.tmp 6) rfl rfl hu.w rfl⟩
     ·exact⟨35,rfl,fun u _=>(a3f a2u Tryz.underlying5 (by kernel_rfl) (by kernel_rfl) (.tmp 32) (.tmp 34) rfl (xs:=le s0 32) (ys:=le w0 32) rfl rfl (a0x _ _) (a0x _ _)).trans (by rw [qq0.out];rfl)⟩
    have H:=hjd (show RtM w3 q6 q9 W X1 _ from(show X1=X0 from hxx.out)▸H.out);go_wp2_with fail
    cases t1 with
    | false=>
      refine Txt.a1k [0,1,4,6] (RtM w3 q6 q9 W X1) [[_,_,_],[_],[_,_],[_]] (by kernel_rfl) (by kernel_rfl) rfl (H.out.kept (Kept.refl [] _).drew) (Txt.a0e ?_);have H:=hjd (H.out.kept (Kept.refl [] _).drew);go_wp2_with (first
       | (with_reducible refine a0d (o:=⟨some 39,_,_,_,_,_⟩) a0c rfl (.tmp 9) rfl rfl H.out.x rfl ?_)
       | (with_reducible refine a0d (o:=⟨some 40,_,_,_,_,_⟩) a0c rfl (.tmp 9) rfl rfl H.out.x rfl ?_)
       | (go_at_call 99;refine(cq1.out _).mono ?_;rintro e fa ⟨rfl,kk⟩;have H:=hjd (H.out.kept kk);clear kk))
      refine⟨rfl,H.out,Txt.a0e ?_⟩;go_wp2_with (go_at_call 100;(with_reducible refine(hs1.out _).mono ?_);rintro e fb ⟨rfl,kk⟩;have H:=hjd (H.out.kept kk);clear kk);refine⟨rfl,H.out,Txt.a0e ?_⟩;go_wp2_with (first
       | (with_reducible refine a0d (o:=⟨some 43,_,_,_,_,_⟩) a0c rfl (.tmp 6) rfl rfl H.out.w rfl ?_)
       | (go_at_call 100;refine(hw0.out _).mono ?_;rintro e fc ⟨rfl,kk⟩;have H:=hjd (H.out.kept kk);clear kk))
      refine⟨rfl,H.out,Txt.a0e ?_⟩;go_wp2_with fail;refine⟨rfl,H.out,Txt.a0w ⟨⟨by kernel_rfl,?_⟩,?_⟩⟩
      ·intro j hj o ho _;have hj2:j=0∨j=1∨j=4∨j=6:=by simpa using hj
       rcases hj2 with rfl | rfl | rfl | rfl <;> cases ho
       ·exact⟨39,rfl,fun u hu=>a1c a0c (.tmp 9) rfl rfl hu.x rfl⟩
       ·exact⟨40,rfl,fun u hu=>a1c a0c (.tmp 9) rfl rfl hu.x rfl⟩
       ·exact⟨43,rfl,fun u hu=>a1c a0c (.tmp 6) rfl rfl hu.w rfl⟩
       ·exact⟨45,rfl,fun u _=>(a3f a2u Tryz.underlying5 (by kernel_rfl) (by kernel_rfl) (.tmp 42) (.tmp 44) rfl (xs:=le s1 32) (ys:=le w0 32) rfl rfl (a0x _ _) (a0x _ _)).trans (by rw [qq1.out];rfl)⟩
      go_wp2_with (first
       | (with_reducible refine a0y (o:=⟨some 46,_,_,_,_,_⟩) rfl rfl a7z ?_)
       | ((with_reducible refine a0a (o:=⟨none,.store 70 (.tmp 4) (.tmp 46),_,_,_,_⟩) a0c rfl (.tmp 4) (.tmp 46) rfl rfl rfl (B4.out.kept H.out.k (by simp)) rfl rfl (a0u _) ?_);intro v4 b4 k4))
      exact a1j a0c rfl rfl b4 rfl rfl ⟨rfl,(D.out.2.a0g H.out.k).a0r k4 D.out.1⟩
    | true=>
      refine Txt.a1k [0,1,4,6] (RtM w3 q6 q9 W X1) [[_,_,_],[_],[_,_],[_]] (by kernel_rfl) (by kernel_rfl) rfl (H.out.kept (Kept.refl [] _).drew) (Txt.a0e ?_);have H:=hjd (H.out.kept (Kept.refl [] _).drew);go_wp2_with (first
       | (with_reducible refine a0d (o:=⟨some 39,_,_,_,_,_⟩) a0c rfl (.tmp 9) rfl rfl H.out.x rfl ?_)
       | (with_reducible refine a0d (o:=⟨some 40,_,_,_,_,_⟩) a0c rfl (.tmp 9) rfl rfl H.out.x rfl ?_)
       | (go_at_call 99;refine(cq1.out _).mono ?_;rintro e fa ⟨rfl,kk⟩;have H:=hjd (H.out.kept kk);clear kk))
      refine⟨rfl,H.out,Txt.a0e ?_⟩;go_wp2_with (go_at_call 100;(with_reducible refine(hs1.out _).mono ?_);rintro e fb ⟨rfl,kk⟩;have H:=hjd (H.out.kept kk);clear kk);refine⟨rfl,H.out,Txt.a0e ?_⟩;go_wp2_with (first
       | (with_reducible refine a0d (o:=⟨some 43,_,_,_,_,_⟩) a0c rfl (.tmp 6) rfl rfl H.out.w rfl ?_)
       | (go_at_call 100;refine(hw0.out _).mono ?_;rintro e fc ⟨rfl,kk⟩;have H:=hjd (H.out.kept kk);clear kk))
      refine⟨rfl,H.out,Txt.a0e ?_⟩;go_wp2_with fail;refine⟨rfl,H.out,Txt.a0w ⟨⟨by kernel_rfl,?_⟩,?_⟩⟩
      ·intro j hj o ho _;have hj2:j=0∨j=1∨j=4∨j=6:=by simpa using hj
       rcases hj2 with rfl | rfl | rfl | rfl <;> cases ho
       ·exact⟨39,rfl,fun u hu=>a1c a0c (.tmp 9) rfl rfl hu.x rfl⟩
       ·exact⟨40,rfl,fun u hu=>a1c a0c (.tmp 9) rfl rfl hu.x rfl⟩
       ·exact⟨43,rfl,fun u hu=>a1c a0c (.tmp 6) rfl rfl hu.w rfl⟩
       ·exact⟨45,rfl,fun u _=>(a3f a2u Tryz.underlying5 (by kernel_rfl) (by kernel_rfl) (.tmp 42) (.tmp 44) rfl (xs:=le s1 32) (ys:=le w0 32) rfl rfl (a0x _ _) (a0x _ _)).trans (by rw [qq1.out];rfl)⟩
      cases od with
      | false=>
        go_wp2_with (first
         | (with_reducible refine a0d (o:=⟨some 47,_,_,_,_,_⟩) a0c rfl (.tmp 9) rfl rfl H.out.x rfl ?_)
         | (go_at_call 101;refine(cod.out _).mono ?_;rintro e fd ⟨rfl,kk⟩;have H:=hjd (H.out.kept kk);clear kk)
         | (with_reducible refine a0d (o:=⟨some 52,_,_,_,_,_⟩) a0c rfl (.tmp 9) rfl rfl H.out.x rfl ?_)
         | ((with_reducible refine a0a (o:=⟨none,.store 70 (.tmp 4) (.tmp 52),_,_,_,_⟩) a0c rfl (.tmp 4) (.tmp 52) rfl rfl rfl (B4.out.kept H.out.k (by simp)) rfl rfl (a0u _) ?_);intro v4 b4 k4))
        exact a1j a0c rfl rfl b4 rfl rfl ⟨rfl,(D.out.2.a0g H.out.k).a0r k4 D.out.1⟩
      | true=>
        go_wp2_with (first
         | (with_reducible refine a0d (o:=⟨some 47,_,_,_,_,_⟩) a0c rfl (.tmp 9) rfl rfl H.out.x rfl ?_)
         | (go_at_call 101;refine(cod.out _).mono ?_;rintro e fd ⟨rfl,kk⟩;have H:=hjd (H.out.kept kk);clear kk)
         | (with_reducible refine a0y (o:=⟨some 49,_,_,_,_,_⟩) rfl rfl a7z ?_)
         | (with_reducible refine a0d (o:=⟨some 50,_,_,_,_,_⟩) a0c rfl (.tmp 9) rfl rfl H.out.x rfl ?_)
         | (go_at_call 116;refine(csu.out _).mono ?_;rintro e fe ⟨rfl,kk⟩;have H:=hjd (H.out.kept kk);clear kk)
         | ((with_reducible refine a0a (o:=⟨none,.store 70 (.tmp 9) (.tmp 51),_,_,_,_⟩) a0c rfl (.tmp 9) (.tmp 51) rfl rfl rfl H.out.x rfl rfl (a0u _) ?_);intro v9 b9 k9;have H:=hjd (H.out.put N.out b9 k9);clear b9 k9)
         | (with_reducible refine a0d (o:=⟨some 52,_,_,_,_,_⟩) a0c rfl (.tmp 9) rfl rfl H.out.x rfl ?_)
         | ((with_reducible refine a0a (o:=⟨none,.store 70 (.tmp 4) (.tmp 52),_,_,_,_⟩) a0c rfl (.tmp 4) (.tmp 52) rfl rfl rfl (B4.out.kept H.out.k (by simp)) rfl rfl (a0u _) ?_);intro v4 b4 k4))
        exact a1j a0c rfl rfl b4 rfl rfl ⟨rfl,(D.out.2.a0g H.out.k).a0r k4 D.out.1⟩
  | false=>
    refine Txt.a1k [0,1,4,6] (RtM w3 q6 q9 W X0) [[_,_,_],[_],[_,_],[_]] (by kernel_rfl) (by kernel_rfl) rfl (H.out.kept (Kept.refl [] _).drew) (Txt.a0e ?_);have H:=hjd (H.out.kept (Kept.refl [] _).drew);go_wp2_with (first
     | (with_reducible refine a0d (o:=⟨some 29,_,_,_,_,_⟩) a0c rfl (.tmp 9) rfl rfl H.out.x rfl ?_)
     | (with_reducible refine a0d (o:=⟨some 30,_,_,_,_,_⟩) a0c rfl (.tmp 9) rfl rfl H.out.x rfl ?_)
     | (go_at_call 99;refine(cq.out _).mono ?_;rintro e da ⟨rfl,kk⟩;have H:=hjd (H.out.kept kk);clear kk))
    refine⟨rfl,H.out,Txt.a0e ?_⟩;go_wp2_with (go_at_call 100;(with_reducible refine(hs0.out _).mono ?_);rintro e db ⟨rfl,kk⟩;have H:=hjd (H.out.kept kk);clear kk);refine⟨rfl,H.out,Txt.a0e ?_⟩;go_wp2_with (first
     | (with_reducible refine a0d (o:=⟨some 33,_,_,_,_,_⟩) a0c rfl (.tmp 6) rfl rfl H.out.w rfl ?_)
     | (go_at_call 100;refine(hw0.out _).mono ?_;rintro e dc ⟨rfl,kk⟩;have H:=hjd (H.out.kept kk);clear kk))
    refine⟨rfl,H.out,Txt.a0e ?_⟩;go_wp2_with fail;refine⟨rfl,H.out,Txt.a0w ⟨⟨by kernel_rfl,?_⟩,?_⟩⟩
    ·intro j hj o ho _;have hj2:j=0∨j=1∨j=4∨j=6:=by simpa using hj
     rcases hj2 with rfl | rfl | rfl | rfl <;> cases ho
     ·exact⟨29,rfl,fun u hu=>a1c a0c (.tmp 9) rfl rfl hu.x rfl⟩
     ·exact⟨30,rfl,fun u hu=>a1c a0c (.tmp 9) rfl rfl hu.x rfl⟩
     ·exact⟨33,rfl,fun u hu=>a1c a0c (.tmp 6) rfl rfl hu.w rfl⟩
     ·exact⟨35,rfl,fun u _=>(a3f a2u Tryz.underlying5 (by kernel_rfl) (by kernel_rfl) (.tmp 32) (.tmp 34) rfl (xs:=le s0 32) (ys:=le w0 32) rfl rfl (a0x _ _) (a0x _ _)).trans (by rw [qq0.out];rfl)⟩
    go_wp2_with fail
    refine a6n (by kernel_rfl) [el X0,el m1F,el XM] (RtM w3 q6 q9 W X0) (by kernel_rfl) rfl rfl (by kernel_rfl) (H.out.kept (Kept.refl [] _).drew) (fun u u' h hk=>h.kept hk) ?_ ?_
    ·refine⟨?_,?_,?_,trivial⟩
     ·exact fun a' u K0 R hS hr ho h=>a0o a0c (.tmp 9) rfl ((ho 9 (by decide)).trans rfl) hS.x rfl (h u (Kept.refl _ _))
     ·refine fun a' u K0 R hS hr ho h=>?_
      exact a0n rfl d7f (vs:=#[]) (by simp) (c1.out u) h
     ·refine fun a' u K0 R hS hr ho h=>?_
      refine a0n rfl a1e (vs:=#[el X0,el m1F]) ?_ (cm1.out u) h;have h0:=hr 0 (el X0) 36 _ rfl rfl rfl ⟨⟨0,.data⟩,by simp,rfl,rfl⟩;have h1:=hr 1 (el m1F) 37 _ rfl rfl rfl ⟨⟨1,.data⟩,by simp,rfl,rfl⟩;simp [Act.eval]at h0 h1 ⊢;exact⟨h0,h1⟩
    intro u7 hS7;have H:=hjd (show RtM w3 q6 q9 W X1 (u7.setRow q9 (uv (fam 5 XM)).toArray)from(show X1=XM from hxx.out)▸hS7.put N.out (hS7.x.a5i _) ((Kept.refl [q9] u7).setRow (.inl (by simp)) _));refine a5k a0c (.tmp 9) (.tmp 38) rfl rfl rfl hS7.x rfl rfl (a0u _) ?_;simp [a1f,List.range,List.range.loop,Act.put];generalize u7.setRow q9 (uv (fam 5 XM)).toArray=u8 at *;clear hS7;go_wp2_with fail
    cases t1 with
    | false=>
      refine Txt.a1k [0,1,4,6] (RtM w3 q6 q9 W X1) [[_,_,_],[_],[_,_],[_]] (by kernel_rfl) (by kernel_rfl) rfl (H.out.kept (Kept.refl [] _).drew) (Txt.a0e ?_);have H:=hjd (H.out.kept (Kept.refl [] _).drew);go_wp2_with (first
       | (with_reducible refine a0d (o:=⟨some 39,_,_,_,_,_⟩) a0c rfl (.tmp 9) rfl rfl H.out.x rfl ?_)
       | (with_reducible refine a0d (o:=⟨some 40,_,_,_,_,_⟩) a0c rfl (.tmp 9) rfl rfl H.out.x rfl ?_)
       | (go_at_call 99;refine(cq1.out _).mono ?_;rintro e fa ⟨rfl,kk⟩;have H:=hjd (H.out.kept kk);clear kk))
      refine⟨rfl,H.out,Txt.a0e ?_⟩;go_wp2_with (go_at_call 100;(with_reducible refine(hs1.out _).mono ?_);rintro e fb ⟨rfl,kk⟩;have H:=hjd (H.out.kept kk);clear kk);refine⟨rfl,H.out,Txt.a0e ?_⟩;go_wp2_with (first
       | (with_reducible refine a0d (o:=⟨some 43,_,_,_,_,_⟩) a0c rfl (.tmp 6) rfl rfl H.out.w rfl ?_)
       | (go_at_call 100;refine(hw0.out _).mono ?_;rintro e fc ⟨rfl,kk⟩;have H:=hjd (H.out.kept kk);clear kk))
      refine⟨rfl,H.out,Txt.a0e ?_⟩;go_wp2_with fail;refine⟨rfl,H.out,Txt.a0w ⟨⟨by kernel_rfl,?_⟩,?_⟩⟩
      ·intro j hj o ho _;have hj2:j=0∨j=1∨j=4∨j=6:=by simpa using hj
       rcases hj2 with rfl | rfl | rfl | rfl <;> cases ho
       ·exact⟨39,rfl,fun u hu=>a1c a0c (.tmp 9) rfl rfl hu.x rfl⟩
       ·exact⟨40,rfl,fun u hu=>a1c a0c (.tmp 9) rfl rfl hu.x rfl⟩
       ·exact⟨43,rfl,fun u hu=>a1c a0c (.tmp 6) rfl rfl hu.w rfl⟩
       ·exact⟨45,rfl,fun u _=>(a3f a2u Tryz.underlying5 (by kernel_rfl) (by kernel_rfl) (.tmp 42) (.tmp 44) rfl (xs:=le s1 32) (ys:=le w0 32) rfl rfl (a0x _ _) (a0x _ _)).trans (by rw [qq1.out];rfl)⟩
      go_wp2_with (first
       | (with_reducible refine a0y (o:=⟨some 46,_,_,_,_,_⟩) rfl rfl a7z ?_)
       | ((with_reducible refine a0a (o:=⟨none,.store 70 (.tmp 4) (.tmp 46),_,_,_,_⟩) a0c rfl (.tmp 4) (.tmp 46) rfl rfl rfl (B4.out.kept H.out.k (by simp)) rfl rfl (a0u _) ?_);intro v4 b4 k4))
      exact a1j a0c rfl rfl b4 rfl rfl ⟨rfl,(D.out.2.a0g H.out.k).a0r k4 D.out.1⟩
    | true=>
      refine Txt.a1k [0,1,4,6] (RtM w3 q6 q9 W X1) [[_,_,_],[_],[_,_],[_]] (by kernel_rfl) (by kernel_rfl) rfl (H.out.kept (Kept.refl [] _).drew) (Txt.a0e ?_);have H:=hjd (H.out.kept (Kept.refl [] _).drew);go_wp2_with (first
       | (with_reducible refine a0d (o:=⟨some 39,_,_,_,_,_⟩) a0c rfl (.tmp 9) rfl rfl H.out.x rfl ?_)
       | (with_reducible refine a0d (o:=⟨some 40,_,_,_,_,_⟩) a0c rfl (.tmp 9) rfl rfl H.out.x rfl ?_)
       | (go_at_call 99;refine(cq1.out _).mono ?_;rintro e fa ⟨rfl,kk⟩;have H:=hjd (H.out.kept kk);clear kk))
      refine⟨rfl,H.out,Txt.a0e ?_⟩;go_wp2_with (go_at_call 100;(with_reducible refine(hs1.out _).mono ?_);rintro e fb ⟨rfl,kk⟩;have H:=hjd (H.out.kept kk);clear kk);refine⟨rfl,H.out,Txt.a0e ?_⟩;go_wp2_with (first
       | (with_reducible refine a0d (o:=⟨some 43,_,_,_,_,_⟩) a0c rfl (.tmp 6) rfl rfl H.out.w rfl ?_)
       | (go_at_call 100;refine(hw0.out _).mono ?_;rintro e fc ⟨rfl,kk⟩;have H:=hjd (H.out.kept kk);clear kk))
      refine⟨rfl,H.out,Txt.a0e ?_⟩;go_wp2_with fail;refine⟨rfl,H.out,Txt.a0w ⟨⟨by kernel_rfl,?_⟩,?_⟩⟩
      ·intro j hj o ho _;have hj2:j=0∨j=1∨j=4∨j=6:=by simpa using hj
       rcases hj2 with rfl | rfl | rfl | rfl <;> cases ho
       ·exact⟨39,rfl,fun u hu=>a1c a0c (.tmp 9) rfl rfl hu.x rfl⟩
       ·exact⟨40,rfl,fun u hu=>a1c a0c (.tmp 9) rfl rfl hu.x rfl⟩
       ·exact⟨43,rfl,fun u hu=>a1c a0c (.tmp 6) rfl rfl hu.w rfl⟩
       ·exact⟨45,rfl,fun u _=>(a3f a2u Tryz.underlying5 (by kernel_rfl) (by kernel_rfl) (.tmp 42) (.tmp 44) rfl (xs:=le s1 32) (ys:=le w0 32) rfl rfl (a0x _ _) (a0x _ _)).trans (by rw [qq1.out];rfl)⟩
      cases od with
      | false=>
        go_wp2_with (first
         | (with_reducible refine a0d (o:=⟨some 47,_,_,_,_,_⟩) a0c rfl (.tmp 9) rfl rfl H.out.x rfl ?_)
         | (go_at_call 101;refine(cod.out _).mono ?_;rintro e fd ⟨rfl,kk⟩;have H:=hjd (H.out.kept kk);clear kk)
         | (with_reducible refine a0d (o:=⟨some 52,_,_,_,_,_⟩) a0c rfl (.tmp 9) rfl rfl H.out.x rfl ?_)
         | ((with_reducible refine a0a (o:=⟨none,.store 70 (.tmp 4) (.tmp 52),_,_,_,_⟩) a0c rfl (.tmp 4) (.tmp 52) rfl rfl rfl (B4.out.kept H.out.k (by simp)) rfl rfl (a0u _) ?_);intro v4 b4 k4))
        exact a1j a0c rfl rfl b4 rfl rfl ⟨rfl,(D.out.2.a0g H.out.k).a0r k4 D.out.1⟩
      | true=>
        go_wp2_with (first
         | (with_reducible refine a0d (o:=⟨some 47,_,_,_,_,_⟩) a0c rfl (.tmp 9) rfl rfl H.out.x rfl ?_)
         | (go_at_call 101;refine(cod.out _).mono ?_;rintro e fd ⟨rfl,kk⟩;have H:=hjd (H.out.kept kk);clear kk)
         | (with_reducible refine a0y (o:=⟨some 49,_,_,_,_,_⟩) rfl rfl a7z ?_)
         | (with_reducible refine a0d (o:=⟨some 50,_,_,_,_,_⟩) a0c rfl (.tmp 9) rfl rfl H.out.x rfl ?_)
         | (go_at_call 116;refine(csu.out _).mono ?_;rintro e fe ⟨rfl,kk⟩;have H:=hjd (H.out.kept kk);clear kk)
         | ((with_reducible refine a0a (o:=⟨none,.store 70 (.tmp 9) (.tmp 51),_,_,_,_⟩) a0c rfl (.tmp 9) (.tmp 51) rfl rfl rfl H.out.x rfl rfl (a0u _) ?_);intro v9 b9 k9;have H:=hjd (H.out.put N.out b9 k9);clear b9 k9)
         | (with_reducible refine a0d (o:=⟨some 52,_,_,_,_,_⟩) a0c rfl (.tmp 9) rfl rfl H.out.x rfl ?_)
         | ((with_reducible refine a0a (o:=⟨none,.store 70 (.tmp 4) (.tmp 52),_,_,_,_⟩) a0c rfl (.tmp 4) (.tmp 52) rfl rfl rfl (B4.out.kept H.out.k (by simp)) rfl rfl (a0u _) ?_);intro v4 b4 k4))
        exact a1j a0c rfl rfl b4 rfl rfl ⟨rfl,(D.out.2.a0g H.out.k).a0r k4 D.out.1⟩
end Go.Proofs.YtdbngnlpafcogaaGreat
namespace Go.Proofs.YtdbngnlpafcogaaGreat
open Go.RowKit Go.Mem Go.Txt
theorem Rep.small(v:Nat)(h:v < 18446744073709551616):Rep (smL v) v:=by
 refine⟨fun i _=>?_,by rw [c1u]⟩;unfold smL;split
 ·omega
 ·split <;> omega
def wM(u v:Nat):Nat:=mlM u (b7s v)
def x1M(u v:Nat):Nat:=if mlM (c5v (wM u v)) (c5v (wM u v)) % PP=wM u v % PP then c5v (wM u v)else mlM (c5v (wM u v)) M1
def okM(u v:Nat):Bool:=decide (v % PP≠0) && decide (mlM (x1M u v) (x1M u v) % PP=wM u v % PP)
def e2m(x:Nat):Nat:=PP - x % PP
def rtM(u v:Nat):Nat:=if x1M u v % PP % 2=1 then e2m (x1M u v)else x1M u v
theorem Rep.w{U V:Nat→Nat}{u v:Nat}(hu:Rep U u)(hv:Rep V v):Rep (rtW U V) (wM u v):=hu.ml hv.inv
theorem Rep.x1{U V:Nat→Nat}{u v:Nat}(hu:Rep U u)(hv:Rep V v):Rep (rtX U V) (x1M u v):=by
 have hw:=hu.w hv;have hs:=(hw.try).ml (hw.try);have hm:=(hw.try).ml rep_m1;unfold rtX x1M;rw [hs.val,hw.val];split
 ·exact hw.try
 ·exact hm
theorem Rep.ok{U V:Nat→Nat}{u v:Nat}(hu:Rep U u)(hv:Rep V v):rtB U V=okM u v:=by
 have hw:=hu.w hv;have hx:=hu.x1 hv;unfold rtB okM;rw [hv.val,hw.val,(hx.ml hx).val]
theorem Rep.neg{F:Nat→Nat}{x:Nat}(h:Rep F x):Rep (a5l (b1h a0j F)) (e2m x):=by
 refine Rep.sub (x:=0) ⟨a7l,by unfold fv a0j;simp⟩ h ?_;unfold e2m;have hp:=a3l;have hm:=Nat.mod_lt x hp;have hd:=Nat.div_add_mod x PP;rw [show PP - x % PP + x=PP * (1 + x / PP)from by rw [Nat.mul_add];omega,Nat.mul_mod_right,Nat.zero_mod]
theorem Rep.rt{U V:Nat→Nat}{u v:Nat}(hu:Rep U u)(hv:Rep V v)(hok:okM u v=true):Rep (rtF U V) (rtM u v):=by
 have hx:=hu.x1 hv;unfold rtF rtM;rw [hu.ok hv,hok,if_pos rfl,hx.val];split
 ·exact hx.neg
 ·exact hx
end Go.Proofs.YtdbngnlpafcogaaGreat
namespace Go.Proofs.YtdbngnlpafcogaaGreat
open Go.RowKit Go.Mem Go.Txt
theorem c4l(V b k:Nat)(hV:V < 2 ^ (8 * k))(hb:b < 256) :
 wrd V (k / 8) < 2 ^ (8 * (k % 8))∧b * 2 ^ (8 * (k % 8)) < 18446744073709551616∧wrd (V + b * 2 ^ (8 * k)) (k / 8)=wrd V (k / 8) + b * 2 ^ (8 * (k % 8)):=by
 have e:8 * k=64 * (k / 8) + 8 * (k % 8):=by omega
 unfold wrd;rw [e,Nat.pow_add]at hV ⊢;have hd:V / 2 ^ (64 * (k / 8)) < 2 ^ (8 * (k % 8)):=by
  rw [Nat.div_lt_iff_lt_mul (Nat.two_pow_pos _),Nat.mul_comm];exact hV
 have h1:(V + b * (2 ^ (64 * (k / 8)) * 2 ^ (8 * (k % 8)))) / 2 ^ (64 * (k / 8))=V / 2 ^ (64 * (k / 8)) + b * 2 ^ (8 * (k % 8)):=by
  rw [Nat.mul_left_comm,Nat.add_mul_div_left _ _ (Nat.two_pow_pos _)]
 rw [h1];generalize V / 2 ^ (64 * (k / 8))=U at *;have hr:k % 8=0∨k % 8=1∨k % 8=2∨k % 8=3∨k % 8=4∨k % 8=5∨k % 8=6∨k % 8=7:=by omega
 rcases hr with h | h | h | h | h | h | h | h <;> rw [h]at hd ⊢ <;> simp only [Nat.reduceMul,Nat.reducePow]at hd ⊢ <;> omega
theorem b9k(V b k i:Nat)(hV:V < 2 ^ (8 * k))(hb:b < 256)(hi:i≠k / 8):wrd (V + b * 2 ^ (8 * k)) i=wrd V i:=by
 unfold wrd;rcases Nat.lt_or_ge i (k / 8)with h | h
 ·have e:8 * k=64 * i + (64 + (8 * k - 64 * i - 64)):=by omega
  rw [e,Nat.pow_add,Nat.mul_left_comm,Nat.add_mul_div_left _ _ (Nat.two_pow_pos _),Nat.pow_add,Nat.mul_left_comm];exact Nat.add_mul_mod_self_left _ _ _
 ·have h2:V + b * 2 ^ (8 * k) < 2 ^ (64 * i):=by
   have:2 ^ (8 * k + 8)≤2 ^ (64 * i):=Nat.pow_le_pow_right (by omega) (by omega);rw [Nat.pow_add]at this;have h3:b * 2 ^ (8 * k)≤255 * 2 ^ (8 * k):=Nat.mul_le_mul_right _ (by omega);omega
  rw [Nat.div_eq_of_lt h2,Nat.div_eq_of_lt (by omega)]
theorem d2d(a b s:Nat)(ha:a < 2 ^ s)(hb8:b < 256)(hb:b * 2 ^ s < 18446744073709551616)(hs:2 ^ s≤18446744073709551616):bits .or .u64 (a:Int) (IntKind.u64.wrap (IntKind.u64.wrap (b:Int) * 2 ^ s))=((a + b * 2 ^ s:Nat):Int):=by
 have e0:IntKind.u64.wrap (b:Int)=(b:Int):=by rw [IntKind.wrap_u64];omega
 rw [e0];have e1:IntKind.u64.wrap ((b:Int) * 2 ^ s)=((b * 2 ^ s:Nat):Int):=by
  rw [IntKind.wrap_u64];have:((b:Int) * 2 ^ s)=((b * 2 ^ s:Nat):Int):=by simp
  rw [this];omega
 rw [e1,bits_or_u64_nat _ _ (by omega) hb];congr 1;have:=Nat.two_pow_add_eq_or_of_lt ha b;rw [Nat.or_comm,Nat.mul_comm b,←this,Nat.add_comm]
theorem e5j{w:World}{g:Nat}{bt:TypeId}(bs:List UInt8)(k:Nat)(hk:k < bs.length)(hl:bs.length=32)(h:Blk w g bt (uv (fam 4 (wrd (leV (bs.take k))))).toArray) :
 Blk (w.setCell ⟨g,k / 8,none⟩ (.int .u64 (wrd (leV (bs.take (k + 1))) (k / 8):Nat))) g bt (uv (fam 4 (wrd (leV (bs.take (k + 1)))))).toArray:=by
 have:=h.e6l (v:=fun z:Nat=>Value.int .u64 (z:Int)) (k / 8) (wrd (leV (bs.take (k + 1))) (k / 8));have e:fam 4 (fun j=>if j=k / 8 then wrd (leV (bs.take (k + 1))) (k / 8)else wrd (leV (bs.take k)) j)=fam 4 (wrd (leV (bs.take (k + 1)))):=a5x 4 fun j _=>by
  by_cases hj:j=k / 8
  ·subst hj;rw [if_pos rfl]
  ·rw [if_neg hj,b1r bs k hk,b9k _ _ _ _ (a6p bs k (by omega)) (UInt8.toNat_lt _) hj]
 rwa [e]at this
def nwL(X i:Nat):Nat:=X / 2 ^ (51 * i) % 2251799813685248
theorem d3i(X:Nat):Lim (nwL X):=fun i _=>by
 have:nwL X i < 2251799813685248:=Nat.mod_lt _ (by decide);omega
theorem b7v(X:Nat):nwL X 0=X % 2251799813685248∧nwL X 1=X / 2251799813685248 % 2251799813685248∧nwL X 2=X / 5070602400912917605986812821504 % 2251799813685248∧nwL X 3=X / 11417981541647679048466287755595961091061972992 % 2251799813685248∧nwL X 4=X / 25711008708143844408671393477458601640355247900524685364822016 % 2251799813685248:=
 ⟨by rw [nwL];simp,rfl,rfl,rfl,rfl⟩
theorem d5r(X:Nat):fv (nwL X)=X % a4k:=by
 obtain⟨h0,h1,h2,h3,h4⟩:=b7v X;unfold fv;rw [h0,h1,h2,h3,h4];unfold a4k;omega
theorem d1w(a c P Q s:Nat)(hP:P=2 ^ s)(hPQ:P * Q=18446744073709551616)(ha:a < P)(h64:P≤18446744073709551616):bits .or .u64 (a:Int) (IntKind.u64.wrap ((c:Int) * (P:Nat)))=((a + P * (c % Q):Nat):Int):=by
 have hq:0 < Q:=Nat.pos_of_ne_zero fun e=>by rw [e]at hPQ;simp at hPQ
 have e:IntKind.u64.wrap ((c:Int) * (P:Nat))=((P * (c % Q):Nat):Int):=by
  rw [←Int.natCast_mul,b4n,←hPQ,Nat.mul_comm c P,Nat.mul_mod_mul_left]
 have hlt:P * (c % Q) < 18446744073709551616:=by
  rw [←hPQ];exact Nat.mul_lt_mul_of_pos_left (Nat.mod_lt _ hq) (by omega)
 rw [e];exact d2s a (c % Q) s P hP ha (by omega) hlt
theorem limb0(X:Nat):bits .and .u64 ((wrd X 0:Nat):Int) 2251799813685247=((nwL X 0:Nat):Int):=by
 rw [b7i _ (a6d _ _),(b7v X).1];congr 1;show X / 2 ^ (64 * 0) % 18446744073709551616 % 2251799813685248=_;simp only [Nat.mul_zero,Nat.pow_zero,Nat.div_one];omega
theorem c2u(X:Nat):wrd X 0=X % 18446744073709551616∧wrd X 1=X / 18446744073709551616 % 18446744073709551616∧wrd X 2=X / 340282366920938463463374607431768211456 % 18446744073709551616∧wrd X 3=X / 6277101735386680763835789423207666416102355444464034512896 % 18446744073709551616:=
 ⟨by rw [wrd];simp,rfl,rfl,rfl⟩
theorem limb1(X:Nat):bits .and .u64 (bits .or .u64 (((wrd X 0:Nat):Int) / 2251799813685248) (IntKind.u64.wrap (((wrd X 1:Nat):Int) * 8192))) 2251799813685247=((nwL X 1:Nat):Int):=by
 obtain⟨h0,h1,_,_⟩:=c2u X;have hlt:=a6d X 0
 rw [show((wrd X 0:Nat):Int) / 2251799813685248=((wrd X 0 / 2251799813685248:Nat):Int)from by omega,
  show(((wrd X 1:Nat):Int) * 8192)=((wrd X 1:Nat):Int) * ((8192:Nat):Int)from rfl,d1w _ _ 8192 2251799813685248 13 rfl rfl (by omega) (by omega),
  b7i _ (by omega),(b7v X).2.1,h0,h1]
 congr 1;omega
theorem limb2(X:Nat):bits .and .u64 (bits .or .u64 (((wrd X 1:Nat):Int) / 274877906944) (IntKind.u64.wrap (((wrd X 2:Nat):Int) * 67108864))) 2251799813685247=((nwL X 2:Nat):Int):=by
 obtain⟨_,h1,h2,_⟩:=c2u X;have hlt:=a6d X 1
 rw [show((wrd X 1:Nat):Int) / 274877906944=((wrd X 1 / 274877906944:Nat):Int)from by omega,
  show(((wrd X 2:Nat):Int) * 67108864)=((wrd X 2:Nat):Int) * ((67108864:Nat):Int)from rfl,d1w _ _ 67108864 274877906944 26 rfl rfl (by omega) (by omega),
  b7i _ (by omega),(b7v X).2.2.1,h1,h2]
 congr 1;omega
theorem limb3(X:Nat):bits .and .u64 (bits .or .u64 (((wrd X 2:Nat):Int) / 33554432) (IntKind.u64.wrap (((wrd X 3:Nat):Int) * 549755813888))) 2251799813685247=((nwL X 3:Nat):Int):=by
 obtain⟨_,_,h2,h3⟩:=c2u X;have hlt:=a6d X 2
 rw [show((wrd X 2:Nat):Int) / 33554432=((wrd X 2 / 33554432:Nat):Int)from by omega,
  show(((wrd X 3:Nat):Int) * 549755813888)=((wrd X 3:Nat):Int) * ((549755813888:Nat):Int)from rfl,d1w _ _ 549755813888 33554432 39 rfl rfl (by omega) (by omega),
  b7i _ (by omega),(b7v X).2.2.2.1,h2,h3]
 congr 1;omega
theorem limb4(X:Nat):bits .and .u64 (((wrd X 3:Nat):Int) / 4096) 2251799813685247=((nwL X 4:Nat):Int):=by
 obtain⟨_,_,_,h3⟩:=c2u X;have hlt:=a6d X 3;rw [show((wrd X 3:Nat):Int) / 4096=((wrd X 3 / 4096:Nat):Int)from by omega,b7i _ (by omega),(b7v X).2.2.2.2,h3];congr 1;omega
theorem d3l(x y:Nat)(hx:x < 2 ^ (8 * 32))(hy:y < 2 ^ (8 * 32)):(le x 32 == le y 32)=decide (x=y):=e1s hx hy
def e1r(bs:List UInt8):Bool:=decide (leV bs < PP)
def b2w(bs:List UInt8):Nat→Nat:=if e1r bs then nwL (leV bs)else a0j
theorem a3q(bs:List UInt8):Lim (b2w bs):=by
 unfold b2w;split
 ·exact d3i _
 ·exact a7l
theorem e6r(bs:List UInt8)(h:e1r bs=true):fv (b2w bs)=leV bs:=by
 have hlt:leV bs < PP:=of_decide_eq_true h;unfold b2w;rw [h,if_pos rfl,d5r,Nat.mod_eq_of_lt];unfold PP at hlt;unfold a4k;omega
end Go.Proofs.YtdbngnlpafcogaaGreat
namespace Go.Mem
open Go.RowKit
theorem a4h{P:Program}{u:World}{a:Act}{o:Oper}{t:TypeId}(x:Operand)(ho:o.op= .load t x)(hs:∀w,(isAgg t).run P w= .ok false w){p:Addr}(hx:a.eval x= .pointer (some p)){v:Value}(hc:u.cell? p=some v) :
 (execOp a.eval o).run P u= .ok (.value v) u:=by
 have h2:(isAgg t).run P u= .ok false u:=hs u;simp [execOp,ho,hx,Instr.loadAt,Instr.sureAddr,loadVar,h2,hc]
end Go.Mem
namespace Go.Proofs.YtdbngnlpafcogaaGreat
open Go.RowKit Go.Mem Go.Txt
theorem d3h(w:World):(isAgg 67).run Tryz.prog w= .ok false w:=by kernel_rfl
structure NewM (w0:World) (g1 g2 g4 g7:Nat) (bs:List UInt8) (X:Nat) (L:Nat→Nat) (u:World):Prop where
 b:Blk u g1 22 (bv bs).toArray
 r:Blk u g2 70 (uv (fam 5 a0j)).toArray
 wd:Blk u g4 76 (uv (fam 4 (wrd X))).toArray
 x:Blk u g7 70 (uv (fam 5 L)).toArray
 k:Kept [] w0 u
theorem NewM.kept{w0:World}{g1 g2 g4 g7:Nat}{bs:List UInt8}{X:Nat}{L:Nat→Nat}{u u':World}(h:NewM w0 g1 g2 g4 g7 bs X L u)(hk:Kept [] u u'):NewM w0 g1 g2 g4 g7 bs X L u':=
 ⟨h.b.kept hk (by simp),h.r.kept hk (by simp),h.wd.kept hk (by simp),h.x.kept hk (by simp),h.k.a0g hk⟩
set_option maxHeartbeats 4000000 in
theorem a7e(bs:List UInt8)(hl:bs.length=32)(w:World) :
 Calls Tryz.prog 113 #[ab bs] w fun e w'=>e= .returned (.tuple #[el (b2w bs),.bool (e1r bs)])∧Kept [] w w':=by
 have hX:=b5k bs;rw [hl]at hX;have hX2:=hjd hX;have hlh:=hjd hl;have hbl:(bv bs).length=32:=by simp [hl]
 have hbl2:=hjd hbl;clear hX hbl;obtain⟨ok,hok⟩:∃b,b=e1r bs:=⟨_,rfl⟩;obtain⟨FF,hFF⟩:∃F,F=b2w bs:=⟨_,rfl⟩;rw [←hok,←hFF];have R0:=hjd (And.intro hok hFF);clear hok hFF;go_enter Tryz.func113,Tryz.ntmps113;go_wp2_with (first
  | ((with_reducible refine a0q (o:=⟨some 1,_,_,_,_,_⟩) (v:=ab bs) rfl (.tmp 0) rfl rfl ?_);intro g1 w1 m1)
  | ((with_reducible refine a0h (o:=⟨some 2,_,_,_,_,_⟩) rfl rfl a1b ?_);intro g2 w2 m2)
  | ((with_reducible refine a0h (o:=⟨some 4,_,_,_,_,_⟩) rfl rfl d0t ?_);intro g4 w3 m3)
  | (refine a0t a2u rfl (.tmp 1) rfl rfl ((m1.blk.kept m2.kept (by simp)).kept m3.kept (by simp)) hbl2.out ?_))
 have B1:=hjd ((m1.blk.kept m2.kept (by simp)).kept m3.kept (by simp));have B2:=hjd (m2.blk.kept m3.kept (by simp));have B4:=hjd (show Blk w3 g4 76 (uv (fam 4 (wrd (leV (bs.take 0))))).toArray from by rw [List.take_zero];exact m3.blk);have K:=hjd ((m1.kept.a0g m2.kept).a0g m3.kept);have D:=hjd (show w.heap.size≤g2∧w.heap.size≤g4∧g1≠g4∧g2≠g4 from⟨Nat.le_trans m1.kept.size m2.le,Nat.le_trans (m1.kept.a0g m2.kept).size m3.le,m3.ne (m2.kept.lt m1.blk.lt),m3.ne m2.blk.lt⟩);clear m1 m2 m3;go_loopg [9] 32 (fun f i wk=>∃k:Nat,k≤32∧f + k=32∧i= .int .i64 k∧Blk wk g4 76 (uv (fam 4 (wrd (leV (bs.take k))))).toArray∧Kept [g4] w3 wk);case atStart=>exact⟨0,Nat.zero_le _,rfl,rfl,B4.out,Kept.refl _ _⟩
 case round=>
  obtain⟨k,hk,hf,rfl,hb,hkw⟩:=hrel;by_cases hlt:k < 32
  ·have hkl:k < bs.length:=by rw [hl];exact hlt
   have hi:∀W,(Instr.index 22 (ab bs) (.int .i64 k)).run Tryz.prog W= .ok (.int .u8 ((bs[k].toNat:Nat):Int)) W:=fun W=>
    a6f a2u Tryz.underlying5 rfl (by kernel_rfl) .i64 k hlt (by simp [bv,a1z,hkl]) W
   have hV:=a6p bs k (by omega);obtain⟨n1,n2,n3⟩:=c4l (leV (bs.take k)) bs[k].toNat k hV (UInt8.toNat_lt _);have hq:k / 8 < 4:=by omega
   have c1:=Blk.a8v (v:=fun z:Nat=>Value.int .u64 (z:Int)) hb (k / 8) hq;have hfz:=hb.frozen (k / 8);have hor:=d2d (wrd (leV (bs.take k)) (k / 8)) bs[k].toNat (8 * (k % 8)) n1 (UInt8.toNat_lt _) n2 (Nat.pow_le_pow_right (n:=2) (j:=64) (by omega) (by omega));rw [←n3,←b1r bs k hkl]at hor;have hst2:=hjd (e5j bs k hkl hl hb);have hk2:=hjd (hkw.setCell (p:=⟨g4,k / 8,none⟩) (.inl (by simp)) (Value.int .u64 (wrd (leV (bs.take (k + 1))) (k / 8):Nat)));clear hV n1 n2 n3 hb hkw hl;go_wp2_with fail;go_roundg (32 - (k + 1));case measure=>omega
   case rel=>exact⟨k + 1,by omega,by omega,by go_num,hst2.out,hk2.out⟩
  ·obtain rfl:k=32:=by omega
   rw [List.take_of_length_le (by omega)]at hb;have B1:=hjd (B1.out.kept hkw (by have:=D.out.2.2.1;simpa using this));have B2:=hjd (B2.out.kept hkw (by have:=D.out.2.2.2;simpa using this));have K:=hjd (K.out.a0r hkw D.out.2.1);have B4:=hjd hb;clear hb hkw hlt hk hf;have hle:=b8p bs;rw [hl]at hle;clear hl;have hv:=d5r (leV bs);have ha:HaC (nwL (leV bs)) (leV bs % a4k % PP):=fun W=>by
    have:=a5c (nwL (leV bs)) W (d3i _)
    rwa [hv]at this
   clear hv;have hQ:∀V,leV bs=V→(le (V % PP) 32 == bs)=decide (V < PP):=fun V e=>by
    rw [←hle,e,d3l _ _ (Nat.lt_of_lt_of_le (Nat.mod_lt _ a3l) (by decide +kernel)) (by rw [←e];exact hX2.out)];rw [decide_eq_decide];have:=Nat.mod_lt V a3l;exact⟨fun h=>by omega,fun h=>Nat.mod_eq_of_lt h⟩
   have l0:=limb0 (leV bs);have l1:=limb1 (leV bs);have l2:=limb2 (leV bs);have l3:=limb3 (leV bs);have l4:=limb4 (leV bs);have c0:=Blk.a8v (v:=fun z:Nat=>Value.int .u64 (z:Int)) B4.out 0 (by omega);have c1:=Blk.a8v (v:=fun z:Nat=>Value.int .u64 (z:Int)) B4.out 1 (by omega);have c2:=Blk.a8v (v:=fun z:Nat=>Value.int .u64 (z:Int)) B4.out 2 (by omega);have c3:=Blk.a8v (v:=fun z:Nat=>Value.int .u64 (z:Int)) B4.out 3 (by omega);have hw3:=(c2u (leV bs)).2.2.2;have b0:=a6d (leV bs) 0;have b1:=a6d (leV bs) 1;have b2:=a6d (leV bs) 2;have b3:=a6d (leV bs) 3;have hXl:=hX2.out;obtain⟨V,hVe⟩:∃V,V=leV bs:=⟨_,rfl⟩;have hQ:=hjd (hQ V hVe.symm);have R0:=R0.out;have R1:=hjd (show ok=decide (V < PP)∧FF=if decide (V < PP)=true then nwL V else a0j from⟨by rw [R0.1,hVe];rfl,by rw [R0.2,hVe];rfl⟩);clear R0;rw [←hVe]at l0 l1 l2 l3 l4 c0 c1 c2 c3 hw3 b0 b1 b2 b3 hXl ha B4
   have hT:Hid ((wrd V 3 / 9223372036854775808=1∧¬V < PP)∨(wrd V 3 / 9223372036854775808=0∧V % a4k=V)):=hjd (by
    clear l0 l1 l2 l3 l4 c0 c1 c2 c3 ha hQ;rw [hw3];unfold PP a4k;omega)
   clear hw3 hle hXl;replace hVe:=hjd hVe;generalize nwL V=L at *;generalize wrd V 0=x0,wrd V 1=x1,wrd V 2=x2 at c0 c1 c2 l0 l1 l2 l3 b0 b1 b2;generalize hx3:wrd V 3=x3 at c3 l3 l4 b3 hT;replace hx3:=hjd hx3;go_wp2_with (first
    | (with_reducible refine a3x (o:=⟨some 59,_,_,_,_,_⟩) rfl 0 (.tmp 58) rfl rfl (c0e L) ?_)
    | ((with_reducible refine a0h (o:=⟨some 7,_,_,_,_,_⟩) rfl rfl a1b ?_);intro g7 w7 m7)
    | ((with_reducible refine a0a (o:=⟨none,.store 70 (.tmp 7) (.tmp 59),_,_,_,_⟩) a0c rfl (.tmp 7) (.tmp 59) rfl rfl rfl m7.blk rfl rfl (a0u _) ?_);intro v7 b7 k7))
   have H:=hjd (show NewM w g1 g2 g4 g7 bs V L v7 from⟨(B1.out.kept m7.kept (by simp)).kept k7 (by simpa using m7.ne B1.out.lt),(B2.out.kept m7.kept (by simp)).kept k7 (by simpa using m7.ne B2.out.lt),(B4.out.kept m7.kept (by simp)).kept k7 (by simpa using m7.ne B4.out.lt),b7,(K.out.a0g m7.kept).a0r k7 (Nat.le_trans K.out.size m7.le)⟩);clear m7 b7 k7 B1 B2 B4 K c0 c1 c2 c3 l0 l1 l2 l3 l4 b0 b1 b2;rcases hT.out with⟨ht,hn⟩ | ⟨ht,hv⟩
   ·obtain⟨rfl,rfl⟩:ok=false∧FF=a0j:=by
     have:=R1.out;rw [decide_eq_false hn]at this;exact⟨this.1,this.2⟩
    have ht2:((x3:Nat):Int) / 9223372036854775808=1:=by omega
    have ha:=hjd ha;clear ht hn hT R1 hQ;refine Txt.a1k [1,5,7,8] (NewM w g1 g2 g4 g7 bs V L) [[_,_,_,_,_,_,_],[_,_,_]] (by kernel_rfl) (by kernel_rfl) rfl (H.out.kept (Kept.refl [] _).drew) (Txt.a0e ?_);have H:=hjd (H.out.kept (Kept.refl [] v7).drew);have cc:=Blk.a8v (v:=fun z:Nat=>Value.int .u64 (z:Int)) H.out.wd 3 (by omega);rw [hx3.out]at cc;go_wp2_with (first
     | (with_reducible refine a0d (o:=⟨some 65,_,_,_,_,_⟩) a0c rfl (.tmp 7) rfl rfl H.out.x rfl ?_)
     | (go_at_call 100;refine(ha.out _).mono ?_;rintro e u6 ⟨rfl,kk⟩;have H:=hjd (H.out.kept kk);clear kk))
    refine⟨rfl,H.out,Txt.a0e ?_⟩;go_wp2_with (refine a0t a2u rfl (.tmp 1) rfl rfl H.out.b hbl2.out ?_);refine⟨rfl,H.out,Txt.a0w ⟨⟨by kernel_rfl,?_⟩,?_⟩⟩
    ·intro j hj o ho hw;have hj2:j=1∨j=5∨j=7∨j=8:=by simpa using hj
     rcases hj2 with rfl | rfl | rfl | rfl <;> cases ho
     ·exact⟨61,rfl,fun u hu=>a4h (.tmp 60) rfl d3h rfl (by have:=Blk.a8v (v:=fun z:Nat=>Value.int .u64 (z:Int)) hu.wd 3 (by omega);rw [hx3.out]at this;exact this)⟩
     ·exact absurd (hw:Region.wanted _ _=true) (by rw [show Region.wanted _ _=false from by kernel_rfl];simp)
     ·exact absurd (hw:Region.wanted _ _=true) (by rw [show Region.wanted _ _=false from by kernel_rfl];simp)
     ·exact absurd (hw:Region.wanted _ _=true) (by rw [show Region.wanted _ _=false from by kernel_rfl];simp)
    go_wp2_with (first
     | (with_reducible refine a0y (o:=⟨some 70,_,_,_,_,_⟩) rfl rfl a7z ?_)
     | ((with_reducible refine a0a (o:=⟨none,.store 70 (.tmp 2) (.tmp 70),_,_,_,_⟩) a0c rfl (.tmp 2) (.tmp 70) rfl rfl rfl H.out.r rfl rfl (a0u _) ?_);intro v2 b2 k2))
    exact a1j a0c rfl rfl b2 rfl rfl ⟨rfl,H.out.k.a0r k2 D.out.1⟩
   ·have ht2:((x3:Nat):Int) / 9223372036854775808=0:=by omega
    rw [hv]at ha;have ha:=hjd ha;by_cases hp:V < PP
    ·obtain⟨rfl,rfl⟩:ok=true∧FF=L:=by
      have:=R1.out;rw [decide_eq_true hp]at this;exact⟨this.1,this.2⟩
     have hq:=hQ.out;rw [decide_eq_true hp]at hq;have eqr:=fun W=>a3r a2u Tryz.underlying5 (by kernel_rfl) (le (V % PP) 32) bs (a0x _ _) hlh.out W
     rw [hq]at eqr;replace hq:=hjd hq;clear ht hv hp hT R1 hQ;refine Txt.a1k [1,5,7,8] (NewM w g1 g2 g4 g7 bs V FF) [[_,_,_,_,_,_,_],[_,_,_]] (by kernel_rfl) (by kernel_rfl) rfl (H.out.kept (Kept.refl [] _).drew) (Txt.a0e ?_);have H:=hjd (H.out.kept (Kept.refl [] v7).drew);have cc:=Blk.a8v (v:=fun z:Nat=>Value.int .u64 (z:Int)) H.out.wd 3 (by omega);rw [hx3.out]at cc;go_wp2_with (first
      | (with_reducible refine a0d (o:=⟨some 65,_,_,_,_,_⟩) a0c rfl (.tmp 7) rfl rfl H.out.x rfl ?_)
      | (go_at_call 100;refine(ha.out _).mono ?_;rintro e u6 ⟨rfl,kk⟩;have H:=hjd (H.out.kept kk);clear kk))
     refine⟨rfl,H.out,Txt.a0e ?_⟩;go_wp2_with (refine a0t a2u rfl (.tmp 1) rfl rfl H.out.b hbl2.out ?_);refine⟨rfl,H.out,Txt.a0w ⟨⟨by kernel_rfl,?_⟩,?_⟩⟩
     ·intro j hj o ho hw;have hj2:j=1∨j=5∨j=7∨j=8:=by simpa using hj
      rcases hj2 with rfl | rfl | rfl | rfl <;> cases ho
      ·exact⟨61,rfl,fun u hu=>a4h (.tmp 60) rfl d3h rfl (by have:=Blk.a8v (v:=fun z:Nat=>Value.int .u64 (z:Int)) hu.wd 3 (by omega);rw [hx3.out]at this;exact this)⟩
      ·exact⟨65,rfl,fun u hu=>a1c a0c (.tmp 7) rfl rfl hu.x rfl⟩
      ·exact⟨67,rfl,fun u hu=>a1c a2u.row (.tmp 1) rfl rfl hu.b hbl2.out⟩
      ·exact⟨68,rfl,fun u _=>(a3f a2u Tryz.underlying5 (by kernel_rfl) (by kernel_rfl) (.tmp 66) (.tmp 67) rfl (xs:=le (V % PP) 32) (ys:=bs) rfl rfl (a0x _ _) hlh.out).trans (by rw [hq.out];rfl)⟩
     go_wp2_with (first
      | (with_reducible refine a0d (o:=⟨some 71,_,_,_,_,_⟩) a0c rfl (.tmp 7) rfl rfl H.out.x rfl ?_)
      | ((with_reducible refine a0a (o:=⟨none,.store 70 (.tmp 2) (.tmp 71),_,_,_,_⟩) a0c rfl (.tmp 2) (.tmp 71) rfl rfl rfl H.out.r rfl rfl (a0u _) ?_);intro v2 b2 k2))
     exact a1j a0c rfl rfl b2 rfl rfl ⟨rfl,H.out.k.a0r k2 D.out.1⟩
    ·obtain⟨rfl,rfl⟩:ok=false∧FF=a0j:=by
      have:=R1.out;rw [decide_eq_false hp]at this;exact⟨this.1,this.2⟩
     have hq:=hQ.out;rw [decide_eq_false hp]at hq;have eqr:=fun W=>a3r a2u Tryz.underlying5 (by kernel_rfl) (le (V % PP) 32) bs (a0x _ _) hlh.out W
     rw [hq]at eqr;replace hq:=hjd hq;clear ht hv hp hT R1 hQ;refine Txt.a1k [1,5,7,8] (NewM w g1 g2 g4 g7 bs V L) [[_,_,_,_,_,_,_],[_,_,_]] (by kernel_rfl) (by kernel_rfl) rfl (H.out.kept (Kept.refl [] _).drew) (Txt.a0e ?_);have H:=hjd (H.out.kept (Kept.refl [] v7).drew);have cc:=Blk.a8v (v:=fun z:Nat=>Value.int .u64 (z:Int)) H.out.wd 3 (by omega);rw [hx3.out]at cc;go_wp2_with (first
      | (with_reducible refine a0d (o:=⟨some 65,_,_,_,_,_⟩) a0c rfl (.tmp 7) rfl rfl H.out.x rfl ?_)
      | (go_at_call 100;refine(ha.out _).mono ?_;rintro e u6 ⟨rfl,kk⟩;have H:=hjd (H.out.kept kk);clear kk))
     refine⟨rfl,H.out,Txt.a0e ?_⟩;go_wp2_with (refine a0t a2u rfl (.tmp 1) rfl rfl H.out.b hbl2.out ?_);refine⟨rfl,H.out,Txt.a0w ⟨⟨by kernel_rfl,?_⟩,?_⟩⟩
     ·intro j hj o ho hw;have hj2:j=1∨j=5∨j=7∨j=8:=by simpa using hj
      rcases hj2 with rfl | rfl | rfl | rfl <;> cases ho
      ·exact⟨61,rfl,fun u hu=>a4h (.tmp 60) rfl d3h rfl (by have:=Blk.a8v (v:=fun z:Nat=>Value.int .u64 (z:Int)) hu.wd 3 (by omega);rw [hx3.out]at this;exact this)⟩
      ·exact⟨65,rfl,fun u hu=>a1c a0c (.tmp 7) rfl rfl hu.x rfl⟩
      ·exact⟨67,rfl,fun u hu=>a1c a2u.row (.tmp 1) rfl rfl hu.b hbl2.out⟩
      ·exact⟨68,rfl,fun u _=>(a3f a2u Tryz.underlying5 (by kernel_rfl) (by kernel_rfl) (.tmp 66) (.tmp 67) rfl (xs:=le (V % PP) 32) (ys:=bs) rfl rfl (a0x _ _) hlh.out).trans (by rw [hq.out];rfl)⟩
     go_wp2_with (first
      | (with_reducible refine a0y (o:=⟨some 70,_,_,_,_,_⟩) rfl rfl a7z ?_)
      | ((with_reducible refine a0a (o:=⟨none,.store 70 (.tmp 2) (.tmp 70),_,_,_,_⟩) a0c rfl (.tmp 2) (.tmp 70) rfl rfl rfl H.out.r rfl rfl (a0u _) ?_);intro v2 b2 k2))
     exact a1j a0c rfl rfl b2 rfl rfl ⟨rfl,H.out.k.a0r k2 D.out.1⟩
end Go.Proofs.YtdbngnlpafcogaaGreat
namespace Go.Proofs.YtdbngnlpafcogaaGreat
open Go.RowKit Go.Mem Go.Txt
abbrev SmC(v:Nat)(F:Nat→Nat):Prop:=∀W,Calls Tryz.prog 114 #[.int .u64 (v:Int)] W fun e w'=>e= .returned (el F)∧Kept [] W w'
abbrev AdC(F G R:Nat→Nat):Prop:=∀W,Calls Tryz.prog 118 #[el F,el G] W fun e w'=>e= .returned (el R)∧Kept [] W w'
def adF(F G:Nat→Nat):Nat→Nat:=a5l (c8f F G)
def suF(F G:Nat→Nat):Nat→Nat:=a5l (b1h F G)
theorem a0v{F G:Nat→Nat}(h:Lim F)(h2:Lim G):Lim (adF F G):=b0f _ fun i hi=>by have:=h i hi;have:=h2 i hi;unfold c8f;omega
theorem a1h{F G:Nat→Nat}(h:Lim F)(_:Lim G):Lim (suF F G):=b0f _ fun i hi=>by have:=h i hi;have:=h 0 (by omega);unfold b1h c5m;split <;> omega
theorem c6k{F G:Nat→Nat}(h:Lim F)(h2:Lim G):AdC F G (adF F G):=fun W=>e0n F G W h h2
theorem c7h{F G:Nat→Nat}(h:Lim F)(h2:Lim G):SuC F G (suF F G):=fun W=>c6a F G W h h2
theorem b1i{F G:Nat→Nat}(h:Lim F)(h2:Lim G):MlC F G (mlF F G):=a4i F G h h2
structure Pm (w0:World) (L:List (Nat × TypeId × Array Value)) (u:World):Prop where
 s:∀p∈L,Blk u p.1 p.2.1 p.2.2
 k:Kept [] w0 u
theorem Pm.none(w0:World):Pm w0 [] w0:=⟨fun _ h=>absurd h (by simp),Kept.refl _ _⟩
theorem Pm.kept{w0:World}{L:List (Nat × TypeId × Array Value)}{u u':World}(h:Pm w0 L u)(hk:Kept [] u u'):Pm w0 L u':=⟨fun p hp=>(h.s p hp).kept hk (by simp),h.k.a0g hk⟩
theorem Pm.drew{w0:World}{L:List (Nat × TypeId × Array Value)}{u:World}(h:Pm w0 L u):Pm w0 L u.drew:=⟨h.s,h.k.drew⟩
theorem Pm.cons{w0:World}{L:List (Nat × TypeId × Array Value)}{u:World}(h:Pm w0 L u){g:Nat}{t:TypeId}{cs:Array Value}(b:Blk u g t cs):Pm w0 ((g,t,cs) :: L) u:=
 ⟨fun p hp=>(List.mem_cons.1 hp).elim (fun e=>by subst e;exact b) (fun hp=>h.s p hp),h.k⟩
theorem Pm.fresh{w0 wr:World}{L:List (Nat × TypeId × Array Value)}(hr:Pm w0 L wr)(u u':World)(T:List Nat)(h:Pm w0 L u)(hk:Kept T u u')(hT:∀k∈T,wr.heap.size≤k):Pm w0 L u':=
 ⟨fun p hp=>(h.s p hp).kept hk fun hh=>by have:=hT _ hh;have:=(hr.s p hp).lt;omega,h.k.fresh hk fun k hh=>Nat.le_trans hr.k.size (hT k hh)⟩
theorem Pm.tail{w0:World}{L:List (Nat × TypeId × Array Value)}{x:Nat × TypeId × Array Value}{u:World}(h:Pm w0 (x :: L) u):Pm w0 L u:=⟨fun p hp=>h.s p (List.mem_cons_of_mem _ hp),h.k⟩
theorem Pm.put{w0:World}{g:Nat}{L:List (Nat × TypeId × Array Value)}{u u1 u2:World}{t:TypeId}{cs cs2:Array Value}(h:Pm w0 L u)(m:Made u u1 g t cs)(b:Blk u2 g t cs2)(k:Kept [g] u1 u2):Pm w0 ((g,t,cs2) :: L) u2:=by
 have h1:=h.kept m.kept;have hl:=Nat.le_trans h.k.size m.le;exact Pm.cons ⟨fun p hp=>(h1.s p hp).kept k (by simpa using m.ne (h.s p hp).lt),h1.k.a0r k hl⟩ b
theorem Pm.again{w0:World}{g:Nat}{L:List (Nat × TypeId × Array Value)}{u u2:World}{t:TypeId}{cs cs2:Array Value}(h:Pm w0 ((g,t,cs) :: L) u)(hl:w0.heap.size≤g)(hn:∀p∈L,p.1≠g)(b:Blk u2 g t cs2)(k:Kept [g] u u2):Pm w0 ((g,t,cs2) :: L) u2:=
 Pm.cons ⟨fun p hp=>(h.s p (List.mem_cons_of_mem _ hp)).kept k (by simpa using hn p hp),h.k.a0r k hl⟩ b
def ptc(X Y Z T:Nat→Nat):List Value:=uv (fam 5 X) ++ (uv (fam 5 Y) ++ (uv (fam 5 Z) ++ uv (fam 5 T)))
abbrev pv(X Y Z T:Nat→Nat):Value:=.agg (ptc X Y Z T).toArray
theorem a0l:RowT Tryz.prog 72 20:=⟨⟨_,Tryz.underlying72,rfl⟩,by kernel_rfl⟩
theorem c6o:(Tryz.prog.info? 72).map (·.zero)=some (some (pv a0j a0j a0j a0j)):=by kernel_rfl
theorem d6i(X Y Z T:Nat→Nat):∀u∈ptc X Y Z T,u.oneCell'=true:=by
 intro u hu;unfold ptc at hu;simp only [List.mem_append]at hu;rcases hu with h | h | h | h <;> exact e3w _ u h
theorem c7f(X Y Z T:Nat→Nat):(ptc X Y Z T).toArray.all (·.oneCell')=true:=by
 rw [Array.all_eq_true_iff_forall_mem];intro v hv;exact d6i X Y Z T v (by simpa using hv)
theorem c4u(X Y Z T:Nat→Nat):(ptc X Y Z T).length=20:=by simp [ptc,a7c]
theorem a5s(X Y Z T:Nat→Nat):(ptc X Y Z T).toArray.size=20:=by rw [List.size_toArray,c4u]
theorem e3o{u:World}{g:Nat}{bt:TypeId}{X Y Z T:Nat→Nat}(h:Blk u g bt (ptc X Y Z T).toArray):u.rangeAt g 0 (uv (fam 5 X)):=Blk.range (pre:=[]) h rfl
theorem e2e{u:World}{g:Nat}{bt:TypeId}{X Y Z T:Nat→Nat}(h:Blk u g bt (ptc X Y Z T).toArray):u.rangeAt g 5 (uv (fam 5 Y)):=Blk.range (pre:=uv (fam 5 X)) h (by simp [a7c])
theorem pt_z{u:World}{g:Nat}{bt:TypeId}{X Y Z T:Nat→Nat}(h:Blk u g bt (ptc X Y Z T).toArray):u.rangeAt g 10 (uv (fam 5 Z)):=Blk.range (pre:=uv (fam 5 X) ++ uv (fam 5 Y)) (post:=uv (fam 5 T)) (by unfold ptc at h;rwa [List.append_assoc]) (by simp [a7c])
theorem pt_t{u:World}{g:Nat}{bt:TypeId}{X Y Z T:Nat→Nat}(h:Blk u g bt (ptc X Y Z T).toArray):u.rangeAt g 15 (uv (fam 5 T)):=Blk.range (pre:=uv (fam 5 X) ++ uv (fam 5 Y) ++ uv (fam 5 Z)) (post:=[]) (by unfold ptc at h;rwa [List.append_assoc,List.append_assoc,List.append_nil]) (by simp [a7c])
theorem fa0(g:Nat)(W:World):(Instr.fieldAt 72 (.pointer (some ⟨g,0,none⟩)) 0).run Tryz.prog W= .ok (.pointer (some ⟨g,0,none⟩)) W:=by kernel_rfl
theorem fa1(g:Nat)(W:World):(Instr.fieldAt 72 (.pointer (some ⟨g,0,none⟩)) 1).run Tryz.prog W= .ok (.pointer (some ⟨g,5,none⟩)) W:=by kernel_rfl
theorem fa2(g:Nat)(W:World):(Instr.fieldAt 72 (.pointer (some ⟨g,0,none⟩)) 2).run Tryz.prog W= .ok (.pointer (some ⟨g,10,none⟩)) W:=by kernel_rfl
theorem fa3(g:Nat)(W:World):(Instr.fieldAt 72 (.pointer (some ⟨g,0,none⟩)) 3).run Tryz.prog W= .ok (.pointer (some ⟨g,15,none⟩)) W:=by kernel_rfl
theorem c9b(X Y Z T:Nat→Nat):Tryz.prog.built 72 [(0,el X),(1,el Y),(2,el Z),(3,el T)]=some (ptc X Y Z T).toArray:=by kernel_rfl
theorem a2b(F:Nat→Nat):(uv (fam 5 F)).length=5:=by simp [a7c]
theorem a3p(xs:Array Value)(w:World):(callFunc 118 xs).run Tryz.prog w= .ok (.enter 118 xs) w:=enters_of (c:=_) Tryz.func118 (by kernel_rfl) rfl xs w
theorem a2q(xs:Array Value)(w:World):(callFunc 116 xs).run Tryz.prog w= .ok (.enter 116 xs) w:=enters_of (c:=_) Tryz.func116 (by kernel_rfl) rfl xs w
end Go.Proofs.YtdbngnlpafcogaaGreat
namespace Go.Proofs.YtdbngnlpafcogaaGreat
open Go.RowKit Go.Mem Go.Txt
theorem b1t{o:Oper}{a:Act}{w:World}{C:Act→World→Prop}{R:Exit→Act→World→Prop}{x0 x1 x2 x3:Tmp}{X Y Z T:Nat→Nat}(ho:o.op= .build 72 #[(0,.tmp x0),(1,.tmp x1),(2,.tmp x2),(3,.tmp x3)])
 (h0:a.tmps.getD x0 undef=el X) (h1:a.tmps.getD x1 undef=el Y) (h2:a.tmps.getD x2 undef=el Z) (h3:a.tmps.getD x3 undef=el T) (h:C (a.put o.dst (pv X Y Z T)) w):o.wp Tryz.prog a w C R:=by
 have e:(#[(0,Operand.tmp x0),(1,Operand.tmp x1),(2,Operand.tmp x2),(3,Operand.tmp x3)].map fun(p:Nat × Operand)=>(p.1,a.eval p.2)).toList= [(0,el X),(1,el Y),(2,el Z),(3,el T)]:=by
  simp [Act.eval]at h0 h1 h2 h3 ⊢;exact⟨h0,h1,h2,h3⟩
 refine wp_build _ _ ho (by rw [e,c9b];rfl) ?_;rw [e,c9b];exact h
set_option maxHeartbeats 4000000 in
theorem d7u(X1 Y1 Z1 T1 X2 Y2 Z2 T2 K:Nat→Nat)(lX1:Lim X1)(lY1:Lim Y1)(lZ1:Lim Z1)(lT1:Lim T1)(lX2:Lim X2)(lY2:Lim Y2)(lZ2:Lim Z2)(lT2:Lim T2)(lK:Lim K)(w:World) :
 Calls Tryz.prog 95 #[pv X1 Y1 Z1 T1,pv X2 Y2 Z2 T2,el K] w fun e w'=>e= .returned (pv (mlF (suF (mlF (adF Y1 X1) (adF Y2 X2)) (mlF (suF Y1 X1) (suF Y2 X2))) (suF (adF (mlF Z1 Z2) (mlF Z1 Z2)) (mlF (mlF T1 K) T2))) (mlF (adF (adF (mlF Z1 Z2) (mlF Z1 Z2)) (mlF (mlF T1 K) T2)) (adF (mlF (adF Y1 X1) (adF Y2 X2)) (mlF (suF Y1 X1) (suF Y2 X2)))) (mlF (suF (adF (mlF Z1 Z2) (mlF Z1 Z2)) (mlF (mlF T1 K) T2)) (adF (adF (mlF Z1 Z2) (mlF Z1 Z2)) (mlF (mlF T1 K) T2))) (mlF (suF (mlF (adF Y1 X1) (adF Y2 X2)) (mlF (suF Y1 X1) (suF Y2 X2))) (adF (mlF (adF Y1 X1) (adF Y2 X2)) (mlF (suF Y1 X1) (suF Y2 X2)))))∧Kept [] w w':=by
 have k0:SuC Y1 X1 (suF Y1 X1):=c7h lY1 lX1;replace k0:=hjd k0;have k1:SuC Y2 X2 (suF Y2 X2):=c7h lY2 lX2;replace k1:=hjd k1;have k2:MlC (suF Y1 X1) (suF Y2 X2) (mlF (suF Y1 X1) (suF Y2 X2)):=b1i (a1h lY1 lX1) (a1h lY2 lX2);replace k2:=hjd k2;have k3:AdC Y1 X1 (adF Y1 X1):=c6k lY1 lX1;replace k3:=hjd k3;have k4:AdC Y2 X2 (adF Y2 X2):=c6k lY2 lX2;replace k4:=hjd k4;have k5:MlC (adF Y1 X1) (adF Y2 X2) (mlF (adF Y1 X1) (adF Y2 X2)):=b1i (a0v lY1 lX1) (a0v lY2 lX2);replace k5:=hjd k5;have k6:MlC T1 K (mlF T1 K):=b1i lT1 lK;replace k6:=hjd k6;have k7:MlC (mlF T1 K) T2 (mlF (mlF T1 K) T2):=b1i (a0i lT1 lK) lT2;replace k7:=hjd k7;have k8:MlC Z1 Z2 (mlF Z1 Z2):=b1i lZ1 lZ2;replace k8:=hjd k8;have k9:AdC (mlF Z1 Z2) (mlF Z1 Z2) (adF (mlF Z1 Z2) (mlF Z1 Z2)):=c6k (a0i lZ1 lZ2) (a0i lZ1 lZ2);replace k9:=hjd k9;have k10:SuC (mlF (adF Y1 X1) (adF Y2 X2)) (mlF (suF Y1 X1) (suF Y2 X2)) (suF (mlF (adF Y1 X1) (adF Y2 X2)) (mlF (suF Y1 X1) (suF Y2 X2))):=c7h (a0i (a0v lY1 lX1) (a0v lY2 lX2)) (a0i (a1h lY1 lX1) (a1h lY2 lX2));replace k10:=hjd k10;have k11:SuC (adF (mlF Z1 Z2) (mlF Z1 Z2)) (mlF (mlF T1 K) T2) (suF (adF (mlF Z1 Z2) (mlF Z1 Z2)) (mlF (mlF T1 K) T2)):=c7h (a0v (a0i lZ1 lZ2) (a0i lZ1 lZ2)) (a0i (a0i lT1 lK) lT2);replace k11:=hjd k11;have k12:AdC (adF (mlF Z1 Z2) (mlF Z1 Z2)) (mlF (mlF T1 K) T2) (adF (adF (mlF Z1 Z2) (mlF Z1 Z2)) (mlF (mlF T1 K) T2)):=c6k (a0v (a0i lZ1 lZ2) (a0i lZ1 lZ2)) (a0i (a0i lT1 lK) lT2);replace k12:=hjd k12
 have k13:AdC (mlF (adF Y1 X1) (adF Y2 X2)) (mlF (suF Y1 X1) (suF Y2 X2)) (adF (mlF (adF Y1 X1) (adF Y2 X2)) (mlF (suF Y1 X1) (suF Y2 X2))):=c6k (a0i (a0v lY1 lX1) (a0v lY2 lX2)) (a0i (a1h lY1 lX1) (a1h lY2 lX2));replace k13:=hjd k13;have k14:MlC (suF (mlF (adF Y1 X1) (adF Y2 X2)) (mlF (suF Y1 X1) (suF Y2 X2))) (suF (adF (mlF Z1 Z2) (mlF Z1 Z2)) (mlF (mlF T1 K) T2)) (mlF (suF (mlF (adF Y1 X1) (adF Y2 X2)) (mlF (suF Y1 X1) (suF Y2 X2))) (suF (adF (mlF Z1 Z2) (mlF Z1 Z2)) (mlF (mlF T1 K) T2))):=b1i (a1h (a0i (a0v lY1 lX1) (a0v lY2 lX2)) (a0i (a1h lY1 lX1) (a1h lY2 lX2))) (a1h (a0v (a0i lZ1 lZ2) (a0i lZ1 lZ2)) (a0i (a0i lT1 lK) lT2));replace k14:=hjd k14;have k15:MlC (adF (adF (mlF Z1 Z2) (mlF Z1 Z2)) (mlF (mlF T1 K) T2)) (adF (mlF (adF Y1 X1) (adF Y2 X2)) (mlF (suF Y1 X1) (suF Y2 X2))) (mlF (adF (adF (mlF Z1 Z2) (mlF Z1 Z2)) (mlF (mlF T1 K) T2)) (adF (mlF (adF Y1 X1) (adF Y2 X2)) (mlF (suF Y1 X1) (suF Y2 X2)))):=b1i (a0v (a0v (a0i lZ1 lZ2) (a0i lZ1 lZ2)) (a0i (a0i lT1 lK) lT2)) (a0v (a0i (a0v lY1 lX1) (a0v lY2 lX2)) (a0i (a1h lY1 lX1) (a1h lY2 lX2)));replace k15:=hjd k15;have k16:MlC (suF (adF (mlF Z1 Z2) (mlF Z1 Z2)) (mlF (mlF T1 K) T2)) (adF (adF (mlF Z1 Z2) (mlF Z1 Z2)) (mlF (mlF T1 K) T2)) (mlF (suF (adF (mlF Z1 Z2) (mlF Z1 Z2)) (mlF (mlF T1 K) T2)) (adF (adF (mlF Z1 Z2) (mlF Z1 Z2)) (mlF (mlF T1 K) T2))):=b1i (a1h (a0v (a0i lZ1 lZ2) (a0i lZ1 lZ2)) (a0i (a0i lT1 lK) lT2)) (a0v (a0v (a0i lZ1 lZ2) (a0i lZ1 lZ2)) (a0i (a0i lT1 lK) lT2));replace k16:=hjd k16
 have k17:MlC (suF (mlF (adF Y1 X1) (adF Y2 X2)) (mlF (suF Y1 X1) (suF Y2 X2))) (adF (mlF (adF Y1 X1) (adF Y2 X2)) (mlF (suF Y1 X1) (suF Y2 X2))) (mlF (suF (mlF (adF Y1 X1) (adF Y2 X2)) (mlF (suF Y1 X1) (suF Y2 X2))) (adF (mlF (adF Y1 X1) (adF Y2 X2)) (mlF (suF Y1 X1) (suF Y2 X2)))):=b1i (a1h (a0i (a0v lY1 lX1) (a0v lY2 lX2)) (a0i (a1h lY1 lX1) (a1h lY2 lX2))) (a0v (a0i (a0v lY1 lX1) (a0v lY2 lX2)) (a0i (a1h lY1 lX1) (a1h lY2 lX2)));replace k17:=hjd k17;clear lX1 lY1 lZ1 lT1 lX2 lY2 lZ2 lT2 lK;go_enter Tryz.func95,Tryz.ntmps95;go_wp2_with (first
  | ((with_reducible refine a0q (o:=⟨some 3,_,_,_,_,_⟩) (v:=pv X1 Y1 Z1 T1) rfl (.tmp 0) rfl rfl ?_);intro g3 w3 m3)
  | ((with_reducible refine a0q (o:=⟨some 4,_,_,_,_,_⟩) (v:=pv X2 Y2 Z2 T2) rfl (.tmp 1) rfl rfl ?_);intro g4 w4 m4)
  | ((with_reducible refine a0q (o:=⟨some 5,_,_,_,_,_⟩) (v:=el K) rfl (.tmp 2) rfl rfl ?_);intro g5 w5 m5)
  | ((with_reducible refine a0h (o:=⟨some 6,_,_,_,_,_⟩) rfl rfl c6o ?_);intro g6 w6 m6))
 have t0:=(((((Pm.none w).kept m3.kept).cons m3.blk).kept m4.kept |>.cons m4.blk).kept m5.kept |>.cons m5.blk).kept m6.kept;have r6:=hjd (And.intro m6.blk (Nat.le_trans (((m3.kept.a0g m4.kept).a0g m5.kept)).size m6.le));have t:=hjd (show Pm w [(g6,72,(ptc a0j a0j a0j a0j).toArray),(g5,70,(uv (fam 5 K)).toArray),(g4,72,(ptc X2 Y2 Z2 T2).toArray),(g3,72,(ptc X1 Y1 Z1 T1).toArray)] w6 from t0.cons m6.blk);have hl6:=hjd r6.out.2;clear m3 m4 m5 m6 t0 r6;refine a2m (by kernel_rfl) [.val (.pointer (some ⟨g3,5,none⟩)),.val (el Y1),.val (.pointer (some ⟨g3,0,none⟩)),.val (el X1),.val (el (suF Y1 X1)),.val (.pointer (some ⟨g4,5,none⟩)),.val (el Y2),.val (.pointer (some ⟨g4,0,none⟩)),.val (el X2),.val (el (suF Y2 X2)),.val (el (mlF (suF Y1 X1) (suF Y2 X2))),.new 70 (el a0j),.put 11 10 (uv (fam 5 (mlF (suF Y1 X1) (suF Y2 X2)))).toArray]
  (Pm w [(g6,72,(ptc a0j a0j a0j a0j).toArray),(g5,70,(uv (fam 5 K)).toArray),(g4,72,(ptc X2 Y2 Z2 T2).toArray),(g3,72,(ptc X1 Y1 Z1 T1).toArray)]) (by kernel_rfl) (by kernel_rfl) t.out.drew (fun u u' T hS hk hT=>t.out.fresh u u' T hS hk hT) ?_ ?_
 ·refine⟨?_,?_,?_,?_,?_,?_,?_,?_,?_,?_,?_,⟨⟨_,rfl⟩,rfl,a1b⟩,?_,trivial⟩
  ·exact⟨⟨_,rfl⟩,fun a' u K0 R hS hr ho h=>a2c (.tmp 3) rfl ((ho 3 (by decide)).trans rfl) (fa1 g3) (h u (Kept.refl _ _))⟩
  ·exact⟨⟨_,rfl⟩,fun a' u K0 R hS hr ho h=>a2d a0c (.tmp 15) rfl (hr 0 _ 15 _ rfl rfl rfl ⟨⟨0,.data⟩,by simp,rfl,rfl⟩) (e2e (hS.s (g3,72,(ptc X1 Y1 Z1 T1).toArray) (by simp))) (a2b _) (h u (Kept.refl _ _))⟩
  ·exact⟨⟨_,rfl⟩,fun a' u K0 R hS hr ho h=>a2c (.tmp 3) rfl ((ho 3 (by decide)).trans rfl) (fa0 g3) (h u (Kept.refl _ _))⟩
  ·exact⟨⟨_,rfl⟩,fun a' u K0 R hS hr ho h=>a2d a0c (.tmp 17) rfl (hr 2 _ 17 _ rfl rfl rfl ⟨⟨2,.data⟩,by simp,rfl,rfl⟩) (e3o (hS.s (g3,72,(ptc X1 Y1 Z1 T1).toArray) (by simp))) (a2b _) (h u (Kept.refl _ _))⟩
  ·refine⟨⟨_,rfl⟩,fun a' u K0 R hS hr ho h=>?_⟩;refine a0n rfl a2q (vs:=#[el Y1,el X1]) ?_ (k0.out u) h;have h0:=hr 1 (el Y1) 16 _ rfl rfl rfl ⟨⟨1,.data⟩,by simp,rfl,rfl⟩;have h1:=hr 3 (el X1) 18 _ rfl rfl rfl ⟨⟨3,.data⟩,by simp,rfl,rfl⟩;simp [Act.eval]at h0 h1 ⊢;exact⟨h0,h1⟩
  ·exact⟨⟨_,rfl⟩,fun a' u K0 R hS hr ho h=>a2c (.tmp 4) rfl ((ho 4 (by decide)).trans rfl) (fa1 g4) (h u (Kept.refl _ _))⟩
  ·exact⟨⟨_,rfl⟩,fun a' u K0 R hS hr ho h=>a2d a0c (.tmp 20) rfl (hr 5 _ 20 _ rfl rfl rfl ⟨⟨5,.data⟩,by simp,rfl,rfl⟩) (e2e (hS.s (g4,72,(ptc X2 Y2 Z2 T2).toArray) (by simp))) (a2b _) (h u (Kept.refl _ _))⟩
  ·exact⟨⟨_,rfl⟩,fun a' u K0 R hS hr ho h=>a2c (.tmp 4) rfl ((ho 4 (by decide)).trans rfl) (fa0 g4) (h u (Kept.refl _ _))⟩
  ·exact⟨⟨_,rfl⟩,fun a' u K0 R hS hr ho h=>a2d a0c (.tmp 22) rfl (hr 7 _ 22 _ rfl rfl rfl ⟨⟨7,.data⟩,by simp,rfl,rfl⟩) (e3o (hS.s (g4,72,(ptc X2 Y2 Z2 T2).toArray) (by simp))) (a2b _) (h u (Kept.refl _ _))⟩
  ·refine⟨⟨_,rfl⟩,fun a' u K0 R hS hr ho h=>?_⟩;refine a0n rfl a2q (vs:=#[el Y2,el X2]) ?_ (k1.out u) h;have h0:=hr 6 (el Y2) 21 _ rfl rfl rfl ⟨⟨6,.data⟩,by simp,rfl,rfl⟩;have h1:=hr 8 (el X2) 23 _ rfl rfl rfl ⟨⟨8,.data⟩,by simp,rfl,rfl⟩;simp [Act.eval]at h0 h1 ⊢;exact⟨h0,h1⟩
  ·refine⟨⟨_,rfl⟩,fun a' u K0 R hS hr ho h=>?_⟩;refine a0n rfl a1e (vs:=#[el (suF Y1 X1),el (suF Y2 X2)]) ?_ (k2.out u) h;have h0:=hr 4 (el (suF Y1 X1)) 19 _ rfl rfl rfl ⟨⟨4,.data⟩,by simp,rfl,rfl⟩;have h1:=hr 9 (el (suF Y2 X2)) 24 _ rfl rfl rfl ⟨⟨9,.data⟩,by simp,rfl,rfl⟩;simp [Act.eval]at h0 h1 ⊢;exact⟨h0,h1⟩
  ·exact⟨rfl,⟨⟨11,.data⟩,by simp,rfl,rfl⟩,⟨⟨10,.data⟩,by simp,rfl,rfl⟩,_,_,_,_,_,_,_,_,rfl,rfl,rfl,rfl,rfl,rfl,rfl,a0c,rfl,rfl,a0u _⟩
 ·intro γ w11 hS hγ hne hput;have b7:=hput 12 11 10 _ _ _ rfl rfl;have hf7:=hγ 11 _ _ rfl;generalize e7:γ 11=g7 at *;simp [a1f,VK,List.range,List.range.loop,Act.put,e7];replace t:=hjd (show Pm w [(g7,70,(uv (fam 5 (mlF (suF Y1 X1) (suF Y2 X2)))).toArray),(g6,72,(ptc a0j a0j a0j a0j).toArray),(g5,70,(uv (fam 5 K)).toArray),(g4,72,(ptc X2 Y2 Z2 T2).toArray),(g3,72,(ptc X1 Y1 Z1 T1).toArray)] w11 from(hS).cons b7);clear b7 hput hne hγ hS e7 hf7;go_wp2_with fail;refine a2m (by kernel_rfl) [.val (.pointer (some ⟨g3,5,none⟩)),.val (el Y1),.val (.pointer (some ⟨g3,0,none⟩)),.val (el X1),.val (el (adF Y1 X1)),.val (.pointer (some ⟨g4,5,none⟩)),.val (el Y2),.val (.pointer (some ⟨g4,0,none⟩)),.val (el X2),.val (el (adF Y2 X2)),.val (el (mlF (adF Y1 X1) (adF Y2 X2))),.new 70 (el a0j),.put 11 10 (uv (fam 5 (mlF (adF Y1 X1) (adF Y2 X2)))).toArray]
   (Pm w [(g7,70,(uv (fam 5 (mlF (suF Y1 X1) (suF Y2 X2)))).toArray),(g6,72,(ptc a0j a0j a0j a0j).toArray),(g5,70,(uv (fam 5 K)).toArray),(g4,72,(ptc X2 Y2 Z2 T2).toArray),(g3,72,(ptc X1 Y1 Z1 T1).toArray)]) (by kernel_rfl) (by kernel_rfl) t.out.drew (fun u u' T hS hk hT=>t.out.fresh u u' T hS hk hT) ?_ ?_
  ·refine⟨?_,?_,?_,?_,?_,?_,?_,?_,?_,?_,?_,⟨⟨_,rfl⟩,rfl,a1b⟩,?_,trivial⟩
   ·exact⟨⟨_,rfl⟩,fun a' u K0 R hS hr ho h=>a2c (.tmp 3) rfl ((ho 3 (by decide)).trans rfl) (fa1 g3) (h u (Kept.refl _ _))⟩
   ·exact⟨⟨_,rfl⟩,fun a' u K0 R hS hr ho h=>a2d a0c (.tmp 26) rfl (hr 0 _ 26 _ rfl rfl rfl ⟨⟨0,.data⟩,by simp,rfl,rfl⟩) (e2e (hS.s (g3,72,(ptc X1 Y1 Z1 T1).toArray) (by simp))) (a2b _) (h u (Kept.refl _ _))⟩
   ·exact⟨⟨_,rfl⟩,fun a' u K0 R hS hr ho h=>a2c (.tmp 3) rfl ((ho 3 (by decide)).trans rfl) (fa0 g3) (h u (Kept.refl _ _))⟩
   ·exact⟨⟨_,rfl⟩,fun a' u K0 R hS hr ho h=>a2d a0c (.tmp 28) rfl (hr 2 _ 28 _ rfl rfl rfl ⟨⟨2,.data⟩,by simp,rfl,rfl⟩) (e3o (hS.s (g3,72,(ptc X1 Y1 Z1 T1).toArray) (by simp))) (a2b _) (h u (Kept.refl _ _))⟩
   ·refine⟨⟨_,rfl⟩,fun a' u K0 R hS hr ho h=>?_⟩;refine a0n rfl a3p (vs:=#[el Y1,el X1]) ?_ (k3.out u) h;have h0:=hr 1 (el Y1) 27 _ rfl rfl rfl ⟨⟨1,.data⟩,by simp,rfl,rfl⟩;have h1:=hr 3 (el X1) 29 _ rfl rfl rfl ⟨⟨3,.data⟩,by simp,rfl,rfl⟩;simp [Act.eval]at h0 h1 ⊢;exact⟨h0,h1⟩
   ·exact⟨⟨_,rfl⟩,fun a' u K0 R hS hr ho h=>a2c (.tmp 4) rfl ((ho 4 (by decide)).trans rfl) (fa1 g4) (h u (Kept.refl _ _))⟩
   ·exact⟨⟨_,rfl⟩,fun a' u K0 R hS hr ho h=>a2d a0c (.tmp 31) rfl (hr 5 _ 31 _ rfl rfl rfl ⟨⟨5,.data⟩,by simp,rfl,rfl⟩) (e2e (hS.s (g4,72,(ptc X2 Y2 Z2 T2).toArray) (by simp))) (a2b _) (h u (Kept.refl _ _))⟩
   ·exact⟨⟨_,rfl⟩,fun a' u K0 R hS hr ho h=>a2c (.tmp 4) rfl ((ho 4 (by decide)).trans rfl) (fa0 g4) (h u (Kept.refl _ _))⟩
   ·exact⟨⟨_,rfl⟩,fun a' u K0 R hS hr ho h=>a2d a0c (.tmp 33) rfl (hr 7 _ 33 _ rfl rfl rfl ⟨⟨7,.data⟩,by simp,rfl,rfl⟩) (e3o (hS.s (g4,72,(ptc X2 Y2 Z2 T2).toArray) (by simp))) (a2b _) (h u (Kept.refl _ _))⟩
   ·refine⟨⟨_,rfl⟩,fun a' u K0 R hS hr ho h=>?_⟩;refine a0n rfl a3p (vs:=#[el Y2,el X2]) ?_ (k4.out u) h;have h0:=hr 6 (el Y2) 32 _ rfl rfl rfl ⟨⟨6,.data⟩,by simp,rfl,rfl⟩;have h1:=hr 8 (el X2) 34 _ rfl rfl rfl ⟨⟨8,.data⟩,by simp,rfl,rfl⟩;simp [Act.eval]at h0 h1 ⊢;exact⟨h0,h1⟩
   ·refine⟨⟨_,rfl⟩,fun a' u K0 R hS hr ho h=>?_⟩;refine a0n rfl a1e (vs:=#[el (adF Y1 X1),el (adF Y2 X2)]) ?_ (k5.out u) h;have h0:=hr 4 (el (adF Y1 X1)) 30 _ rfl rfl rfl ⟨⟨4,.data⟩,by simp,rfl,rfl⟩;have h1:=hr 9 (el (adF Y2 X2)) 35 _ rfl rfl rfl ⟨⟨9,.data⟩,by simp,rfl,rfl⟩;simp [Act.eval]at h0 h1 ⊢;exact⟨h0,h1⟩
   ·exact⟨rfl,⟨⟨11,.data⟩,by simp,rfl,rfl⟩,⟨⟨10,.data⟩,by simp,rfl,rfl⟩,_,_,_,_,_,_,_,_,rfl,rfl,rfl,rfl,rfl,rfl,rfl,a0c,rfl,rfl,a0u _⟩
  ·intro γ w12 hS hγ hne hput;have b8:=hput 12 11 10 _ _ _ rfl rfl;have hf8:=hγ 11 _ _ rfl;generalize e8:γ 11=g8 at *;simp [a1f,VK,List.range,List.range.loop,Act.put,e8];replace t:=hjd (show Pm w [(g8,70,(uv (fam 5 (mlF (adF Y1 X1) (adF Y2 X2)))).toArray),(g7,70,(uv (fam 5 (mlF (suF Y1 X1) (suF Y2 X2)))).toArray),(g6,72,(ptc a0j a0j a0j a0j).toArray),(g5,70,(uv (fam 5 K)).toArray),(g4,72,(ptc X2 Y2 Z2 T2).toArray),(g3,72,(ptc X1 Y1 Z1 T1).toArray)] w12 from(hS).cons b8);clear b8 hput hne hγ hS e8 hf8;go_wp2_with fail;refine a2m (by kernel_rfl) [.val (.pointer (some ⟨g3,15,none⟩)),.val (el T1),.val (el K),.val (el (mlF T1 K)),.val (.pointer (some ⟨g4,15,none⟩)),.val (el T2),.val (el (mlF (mlF T1 K) T2)),.new 70 (el a0j),.put 7 6 (uv (fam 5 (mlF (mlF T1 K) T2))).toArray]
    (Pm w [(g8,70,(uv (fam 5 (mlF (adF Y1 X1) (adF Y2 X2)))).toArray),(g7,70,(uv (fam 5 (mlF (suF Y1 X1) (suF Y2 X2)))).toArray),(g6,72,(ptc a0j a0j a0j a0j).toArray),(g5,70,(uv (fam 5 K)).toArray),(g4,72,(ptc X2 Y2 Z2 T2).toArray),(g3,72,(ptc X1 Y1 Z1 T1).toArray)]) (by kernel_rfl) (by kernel_rfl) t.out.drew (fun u u' T hS hk hT=>t.out.fresh u u' T hS hk hT) ?_ ?_
   ·refine⟨?_,?_,?_,?_,?_,?_,?_,⟨⟨_,rfl⟩,rfl,a1b⟩,?_,trivial⟩
    ·exact⟨⟨_,rfl⟩,fun a' u K0 R hS hr ho h=>a2c (.tmp 3) rfl ((ho 3 (by decide)).trans rfl) (fa3 g3) (h u (Kept.refl _ _))⟩
    ·exact⟨⟨_,rfl⟩,fun a' u K0 R hS hr ho h=>a2d a0c (.tmp 37) rfl (hr 0 _ 37 _ rfl rfl rfl ⟨⟨0,.data⟩,by simp,rfl,rfl⟩) (pt_t (hS.s (g3,72,(ptc X1 Y1 Z1 T1).toArray) (by simp))) (a2b _) (h u (Kept.refl _ _))⟩
    ·exact⟨⟨_,rfl⟩,fun a' u K0 R hS hr ho h=>a0o a0c (.tmp 5) rfl ((ho 5 (by decide)).trans rfl) (hS.s (g5,70,(uv (fam 5 K)).toArray) (by simp)) rfl (h u (Kept.refl _ _))⟩
    ·refine⟨⟨_,rfl⟩,fun a' u K0 R hS hr ho h=>?_⟩;refine a0n rfl a1e (vs:=#[el T1,el K]) ?_ (k6.out u) h;have h0:=hr 1 (el T1) 38 _ rfl rfl rfl ⟨⟨1,.data⟩,by simp,rfl,rfl⟩;have h1:=hr 2 (el K) 39 _ rfl rfl rfl ⟨⟨2,.data⟩,by simp,rfl,rfl⟩;simp [Act.eval]at h0 h1 ⊢;exact⟨h0,h1⟩
    ·exact⟨⟨_,rfl⟩,fun a' u K0 R hS hr ho h=>a2c (.tmp 4) rfl ((ho 4 (by decide)).trans rfl) (fa3 g4) (h u (Kept.refl _ _))⟩
    ·exact⟨⟨_,rfl⟩,fun a' u K0 R hS hr ho h=>a2d a0c (.tmp 41) rfl (hr 4 _ 41 _ rfl rfl rfl ⟨⟨4,.data⟩,by simp,rfl,rfl⟩) (pt_t (hS.s (g4,72,(ptc X2 Y2 Z2 T2).toArray) (by simp))) (a2b _) (h u (Kept.refl _ _))⟩
    ·refine⟨⟨_,rfl⟩,fun a' u K0 R hS hr ho h=>?_⟩;refine a0n rfl a1e (vs:=#[el (mlF T1 K),el T2]) ?_ (k7.out u) h;have h0:=hr 3 (el (mlF T1 K)) 40 _ rfl rfl rfl ⟨⟨3,.data⟩,by simp,rfl,rfl⟩;have h1:=hr 5 (el T2) 42 _ rfl rfl rfl ⟨⟨5,.data⟩,by simp,rfl,rfl⟩;simp [Act.eval]at h0 h1 ⊢;exact⟨h0,h1⟩
    ·exact⟨rfl,⟨⟨7,.data⟩,by simp,rfl,rfl⟩,⟨⟨6,.data⟩,by simp,rfl,rfl⟩,_,_,_,_,_,_,_,_,rfl,rfl,rfl,rfl,rfl,rfl,rfl,a0c,rfl,rfl,a0u _⟩
   ·intro γ w13 hS hγ hne hput;have b9:=hput 8 7 6 _ _ _ rfl rfl;have hf9:=hγ 7 _ _ rfl;generalize e9:γ 7=g9 at *;simp [a1f,VK,List.range,List.range.loop,Act.put,e9];replace t:=hjd (show Pm w [(g9,70,(uv (fam 5 (mlF (mlF T1 K) T2))).toArray),(g8,70,(uv (fam 5 (mlF (adF Y1 X1) (adF Y2 X2)))).toArray),(g7,70,(uv (fam 5 (mlF (suF Y1 X1) (suF Y2 X2)))).toArray),(g6,72,(ptc a0j a0j a0j a0j).toArray),(g5,70,(uv (fam 5 K)).toArray),(g4,72,(ptc X2 Y2 Z2 T2).toArray),(g3,72,(ptc X1 Y1 Z1 T1).toArray)] w13 from(hS).cons b9);clear b9 hput hne hγ hS e9 hf9;go_wp2_with (first
     | (with_reducible refine a1i (o:=⟨some 45,_,_,_,_,_⟩) a0c rfl (.tmp 44) rfl rfl (pt_z (t.out.s (g3,72,(ptc X1 Y1 Z1 T1).toArray) (by simp))) (a2b _) ?_)
     | (with_reducible refine a1i (o:=⟨some 47,_,_,_,_,_⟩) a0c rfl (.tmp 46) rfl rfl (pt_z (t.out.s (g4,72,(ptc X2 Y2 Z2 T2).toArray) (by simp))) (a2b _) ?_)
     | (go_at_call 99;(with_reducible refine(k8.out _).mono ?_);rintro e y1 ⟨rfl,kk⟩;replace t:=hjd (t.out.kept kk);clear kk)
     | ((with_reducible refine a0h (o:=⟨some 10,_,_,_,_,_⟩) rfl rfl a1b ?_);intro g10 x10 m10;have hl10:=hjd (Nat.le_trans t.out.k.size m10.le);have hn10:=hjd (fun p hp=>m10.ne (t.out.s p hp).lt))
     | ((with_reducible refine a0a (o:=⟨none,.store 70 (.tmp 10) (.tmp 48),_,_,_,_⟩) a0c rfl (.tmp 10) (.tmp 48) rfl rfl rfl m10.blk rfl rfl (a0u _) ?_);intro v10 b10 k10;replace t:=hjd (t.out.put m10 b10 k10);clear m10 b10 k10)
     | (with_reducible refine a0d (o:=⟨some 49,_,_,_,_,_⟩) a0c rfl (.tmp 10) rfl rfl (t.out.s (g10,70,(uv (fam 5 (mlF Z1 Z2))).toArray) (by simp)) rfl ?_)
     | (with_reducible refine a0d (o:=⟨some 50,_,_,_,_,_⟩) a0c rfl (.tmp 10) rfl rfl (t.out.s (g10,70,(uv (fam 5 (mlF Z1 Z2))).toArray) (by simp)) rfl ?_)
     | (go_at_call 118;(with_reducible refine(k9.out _).mono ?_);rintro e y1 ⟨rfl,kk⟩;replace t:=hjd (t.out.kept kk);clear kk)
     | ((with_reducible refine a0a (o:=⟨none,.store 70 (.tmp 10) (.tmp 51),_,_,_,_⟩) a0c rfl (.tmp 10) (.tmp 51) rfl rfl rfl (t.out.s (g10,70,(uv (fam 5 (mlF Z1 Z2))).toArray) (by simp)) rfl rfl (a0u _) ?_);intro v11 b11 k11;replace t:=hjd (t.out.again hl10.out hn10.out b11 k11);clear b11 k11))
    go_wp2_with fail
    refine a2m (by kernel_rfl) [.val (el (mlF (adF Y1 X1) (adF Y2 X2))),.val (el (mlF (suF Y1 X1) (suF Y2 X2))),.val (el (suF (mlF (adF Y1 X1) (adF Y2 X2)) (mlF (suF Y1 X1) (suF Y2 X2)))),.val (el (adF (mlF Z1 Z2) (mlF Z1 Z2))),.val (el (mlF (mlF T1 K) T2)),.val (el (suF (adF (mlF Z1 Z2) (mlF Z1 Z2)) (mlF (mlF T1 K) T2))),.val (el (adF (mlF Z1 Z2) (mlF Z1 Z2))),.val (el (mlF (mlF T1 K) T2)),.val (el (adF (adF (mlF Z1 Z2) (mlF Z1 Z2)) (mlF (mlF T1 K) T2))),.val (el (mlF (adF Y1 X1) (adF Y2 X2))),.val (el (mlF (suF Y1 X1) (suF Y2 X2))),.val (el (adF (mlF (adF Y1 X1) (adF Y2 X2)) (mlF (suF Y1 X1) (suF Y2 X2)))),.new 70 (el a0j),.new 70 (el a0j),.new 70 (el a0j),.new 70 (el a0j),.put 12 2 (uv (fam 5 (suF (mlF (adF Y1 X1) (adF Y2 X2)) (mlF (suF Y1 X1) (suF Y2 X2))))).toArray,.put 13 5 (uv (fam 5 (suF (adF (mlF Z1 Z2) (mlF Z1 Z2)) (mlF (mlF T1 K) T2)))).toArray,.put 14 8 (uv (fam 5 (adF (adF (mlF Z1 Z2) (mlF Z1 Z2)) (mlF (mlF T1 K) T2)))).toArray,.put 15 11 (uv (fam 5 (adF (mlF (adF Y1 X1) (adF Y2 X2)) (mlF (suF Y1 X1) (suF Y2 X2))))).toArray]
     (Pm w [(g10,70,(uv (fam 5 (adF (mlF Z1 Z2) (mlF Z1 Z2)))).toArray),(g9,70,(uv (fam 5 (mlF (mlF T1 K) T2))).toArray),(g8,70,(uv (fam 5 (mlF (adF Y1 X1) (adF Y2 X2)))).toArray),(g7,70,(uv (fam 5 (mlF (suF Y1 X1) (suF Y2 X2)))).toArray),(g6,72,(ptc a0j a0j a0j a0j).toArray),(g5,70,(uv (fam 5 K)).toArray),(g4,72,(ptc X2 Y2 Z2 T2).toArray),(g3,72,(ptc X1 Y1 Z1 T1).toArray)]) (by kernel_rfl) (by kernel_rfl) t.out.drew (fun u u' T hS hk hT=>t.out.fresh u u' T hS hk hT) ?_ ?_
    ·refine⟨?_,?_,?_,?_,?_,?_,?_,?_,?_,?_,?_,?_,⟨⟨_,rfl⟩,rfl,a1b⟩,⟨⟨_,rfl⟩,rfl,a1b⟩,⟨⟨_,rfl⟩,rfl,a1b⟩,⟨⟨_,rfl⟩,rfl,a1b⟩,?_,?_,?_,?_,trivial⟩
     ·exact⟨⟨_,rfl⟩,fun a' u K0 R hS hr ho h=>a0o a0c (.tmp 8) rfl ((ho 8 (by decide)).trans rfl) (hS.s (g8,70,(uv (fam 5 (mlF (adF Y1 X1) (adF Y2 X2)))).toArray) (by simp)) rfl (h u (Kept.refl _ _))⟩
     ·exact⟨⟨_,rfl⟩,fun a' u K0 R hS hr ho h=>a0o a0c (.tmp 7) rfl ((ho 7 (by decide)).trans rfl) (hS.s (g7,70,(uv (fam 5 (mlF (suF Y1 X1) (suF Y2 X2)))).toArray) (by simp)) rfl (h u (Kept.refl _ _))⟩
     ·refine⟨⟨_,rfl⟩,fun a' u K0 R hS hr ho h=>?_⟩;refine a0n rfl a2q (vs:=#[el (mlF (adF Y1 X1) (adF Y2 X2)),el (mlF (suF Y1 X1) (suF Y2 X2))]) ?_ (k10.out u) h;have h0:=hr 0 (el (mlF (adF Y1 X1) (adF Y2 X2))) 52 _ rfl rfl rfl ⟨⟨0,.data⟩,by simp,rfl,rfl⟩;have h1:=hr 1 (el (mlF (suF Y1 X1) (suF Y2 X2))) 53 _ rfl rfl rfl ⟨⟨1,.data⟩,by simp,rfl,rfl⟩;simp [Act.eval]at h0 h1 ⊢;exact⟨h0,h1⟩
     ·exact⟨⟨_,rfl⟩,fun a' u K0 R hS hr ho h=>a0o a0c (.tmp 10) rfl ((ho 10 (by decide)).trans rfl) (hS.s (g10,70,(uv (fam 5 (adF (mlF Z1 Z2) (mlF Z1 Z2)))).toArray) (by simp)) rfl (h u (Kept.refl _ _))⟩
     ·exact⟨⟨_,rfl⟩,fun a' u K0 R hS hr ho h=>a0o a0c (.tmp 9) rfl ((ho 9 (by decide)).trans rfl) (hS.s (g9,70,(uv (fam 5 (mlF (mlF T1 K) T2))).toArray) (by simp)) rfl (h u (Kept.refl _ _))⟩
     ·refine⟨⟨_,rfl⟩,fun a' u K0 R hS hr ho h=>?_⟩;refine a0n rfl a2q (vs:=#[el (adF (mlF Z1 Z2) (mlF Z1 Z2)),el (mlF (mlF T1 K) T2)]) ?_ (k11.out u) h;have h0:=hr 3 (el (adF (mlF Z1 Z2) (mlF Z1 Z2))) 55 _ rfl rfl rfl ⟨⟨3,.data⟩,by simp,rfl,rfl⟩;have h1:=hr 4 (el (mlF (mlF T1 K) T2)) 56 _ rfl rfl rfl ⟨⟨4,.data⟩,by simp,rfl,rfl⟩;simp [Act.eval]at h0 h1 ⊢;exact⟨h0,h1⟩
     ·exact⟨⟨_,rfl⟩,fun a' u K0 R hS hr ho h=>a0o a0c (.tmp 10) rfl ((ho 10 (by decide)).trans rfl) (hS.s (g10,70,(uv (fam 5 (adF (mlF Z1 Z2) (mlF Z1 Z2)))).toArray) (by simp)) rfl (h u (Kept.refl _ _))⟩
     ·exact⟨⟨_,rfl⟩,fun a' u K0 R hS hr ho h=>a0o a0c (.tmp 9) rfl ((ho 9 (by decide)).trans rfl) (hS.s (g9,70,(uv (fam 5 (mlF (mlF T1 K) T2))).toArray) (by simp)) rfl (h u (Kept.refl _ _))⟩
     ·refine⟨⟨_,rfl⟩,fun a' u K0 R hS hr ho h=>?_⟩;refine a0n rfl a3p (vs:=#[el (adF (mlF Z1 Z2) (mlF Z1 Z2)),el (mlF (mlF T1 K) T2)]) ?_ (k12.out u) h;have h0:=hr 6 (el (adF (mlF Z1 Z2) (mlF Z1 Z2))) 58 _ rfl rfl rfl ⟨⟨6,.data⟩,by simp,rfl,rfl⟩;have h1:=hr 7 (el (mlF (mlF T1 K) T2)) 59 _ rfl rfl rfl ⟨⟨7,.data⟩,by simp,rfl,rfl⟩;simp [Act.eval]at h0 h1 ⊢;exact⟨h0,h1⟩
     ·exact⟨⟨_,rfl⟩,fun a' u K0 R hS hr ho h=>a0o a0c (.tmp 8) rfl ((ho 8 (by decide)).trans rfl) (hS.s (g8,70,(uv (fam 5 (mlF (adF Y1 X1) (adF Y2 X2)))).toArray) (by simp)) rfl (h u (Kept.refl _ _))⟩
     ·exact⟨⟨_,rfl⟩,fun a' u K0 R hS hr ho h=>a0o a0c (.tmp 7) rfl ((ho 7 (by decide)).trans rfl) (hS.s (g7,70,(uv (fam 5 (mlF (suF Y1 X1) (suF Y2 X2)))).toArray) (by simp)) rfl (h u (Kept.refl _ _))⟩
     ·refine⟨⟨_,rfl⟩,fun a' u K0 R hS hr ho h=>?_⟩;refine a0n rfl a3p (vs:=#[el (mlF (adF Y1 X1) (adF Y2 X2)),el (mlF (suF Y1 X1) (suF Y2 X2))]) ?_ (k13.out u) h;have h0:=hr 9 (el (mlF (adF Y1 X1) (adF Y2 X2))) 61 _ rfl rfl rfl ⟨⟨9,.data⟩,by simp,rfl,rfl⟩;have h1:=hr 10 (el (mlF (suF Y1 X1) (suF Y2 X2))) 62 _ rfl rfl rfl ⟨⟨10,.data⟩,by simp,rfl,rfl⟩;simp [Act.eval]at h0 h1 ⊢;exact⟨h0,h1⟩
     ·exact⟨rfl,⟨⟨12,.data⟩,by simp,rfl,rfl⟩,⟨⟨2,.data⟩,by simp,rfl,rfl⟩,_,_,_,_,_,_,_,_,rfl,rfl,rfl,rfl,rfl,rfl,rfl,a0c,rfl,rfl,a0u _⟩
     ·exact⟨rfl,⟨⟨13,.data⟩,by simp,rfl,rfl⟩,⟨⟨5,.data⟩,by simp,rfl,rfl⟩,_,_,_,_,_,_,_,_,rfl,rfl,rfl,rfl,rfl,rfl,rfl,a0c,rfl,rfl,a0u _⟩
     ·exact⟨rfl,⟨⟨14,.data⟩,by simp,rfl,rfl⟩,⟨⟨8,.data⟩,by simp,rfl,rfl⟩,_,_,_,_,_,_,_,_,rfl,rfl,rfl,rfl,rfl,rfl,rfl,a0c,rfl,rfl,a0u _⟩
     ·exact⟨rfl,⟨⟨15,.data⟩,by simp,rfl,rfl⟩,⟨⟨11,.data⟩,by simp,rfl,rfl⟩,_,_,_,_,_,_,_,_,rfl,rfl,rfl,rfl,rfl,rfl,rfl,a0c,rfl,rfl,a0u _⟩
    ·intro γ w16 hS hγ hne hput;have b11:=hput 16 12 2 _ _ _ rfl rfl;have b12:=hput 17 13 5 _ _ _ rfl rfl;have b13:=hput 18 14 8 _ _ _ rfl rfl;have b14:=hput 19 15 11 _ _ _ rfl rfl;have hf11:=hγ 12 _ _ rfl;have hf12:=hγ 13 _ _ rfl;have hf13:=hγ 14 _ _ rfl;have hf14:=hγ 15 _ _ rfl;generalize e11:γ 12=g11 at *;generalize e12:γ 13=g12 at *;generalize e13:γ 14=g13 at *;generalize e14:γ 15=g14 at *;simp [a1f,VK,List.range,List.range.loop,Act.put,e11,e12,e13,e14];replace t:=hjd (show Pm w [(g14,70,(uv (fam 5 (adF (mlF (adF Y1 X1) (adF Y2 X2)) (mlF (suF Y1 X1) (suF Y2 X2))))).toArray),(g13,70,(uv (fam 5 (adF (adF (mlF Z1 Z2) (mlF Z1 Z2)) (mlF (mlF T1 K) T2)))).toArray),(g12,70,(uv (fam 5 (suF (adF (mlF Z1 Z2) (mlF Z1 Z2)) (mlF (mlF T1 K) T2)))).toArray),(g11,70,(uv (fam 5 (suF (mlF (adF Y1 X1) (adF Y2 X2)) (mlF (suF Y1 X1) (suF Y2 X2))))).toArray),(g10,70,(uv (fam 5 (adF (mlF Z1 Z2) (mlF Z1 Z2)))).toArray),(g9,70,(uv (fam 5 (mlF (mlF T1 K) T2))).toArray),(g8,70,(uv (fam 5 (mlF (adF Y1 X1) (adF Y2 X2)))).toArray),(g7,70,(uv (fam 5 (mlF (suF Y1 X1) (suF Y2 X2)))).toArray),(g6,72,(ptc a0j a0j a0j a0j).toArray),(g5,70,(uv (fam 5 K)).toArray),(g4,72,(ptc X2 Y2 Z2 T2).toArray),(g3,72,(ptc X1 Y1 Z1 T1).toArray)] w16 from((((hS).cons b11).cons b12).cons b13).cons b14);clear b11 b12 b13 b14 hput hne hγ hS e11 e12 e13 e14 hf11 hf12 hf13 hf14;go_wp2_with fail
     refine a6n (by kernel_rfl) [el (suF (mlF (adF Y1 X1) (adF Y2 X2)) (mlF (suF Y1 X1) (suF Y2 X2))),el (suF (adF (mlF Z1 Z2) (mlF Z1 Z2)) (mlF (mlF T1 K) T2)),el (mlF (suF (mlF (adF Y1 X1) (adF Y2 X2)) (mlF (suF Y1 X1) (suF Y2 X2))) (suF (adF (mlF Z1 Z2) (mlF Z1 Z2)) (mlF (mlF T1 K) T2))),el (adF (adF (mlF Z1 Z2) (mlF Z1 Z2)) (mlF (mlF T1 K) T2)),el (adF (mlF (adF Y1 X1) (adF Y2 X2)) (mlF (suF Y1 X1) (suF Y2 X2))),el (mlF (adF (adF (mlF Z1 Z2) (mlF Z1 Z2)) (mlF (mlF T1 K) T2)) (adF (mlF (adF Y1 X1) (adF Y2 X2)) (mlF (suF Y1 X1) (suF Y2 X2)))),el (suF (adF (mlF Z1 Z2) (mlF Z1 Z2)) (mlF (mlF T1 K) T2)),el (adF (adF (mlF Z1 Z2) (mlF Z1 Z2)) (mlF (mlF T1 K) T2)),el (mlF (suF (adF (mlF Z1 Z2) (mlF Z1 Z2)) (mlF (mlF T1 K) T2)) (adF (adF (mlF Z1 Z2) (mlF Z1 Z2)) (mlF (mlF T1 K) T2))),el (suF (mlF (adF Y1 X1) (adF Y2 X2)) (mlF (suF Y1 X1) (suF Y2 X2))),el (adF (mlF (adF Y1 X1) (adF Y2 X2)) (mlF (suF Y1 X1) (suF Y2 X2))),el (mlF (suF (mlF (adF Y1 X1) (adF Y2 X2)) (mlF (suF Y1 X1) (suF Y2 X2))) (adF (mlF (adF Y1 X1) (adF Y2 X2)) (mlF (suF Y1 X1) (suF Y2 X2)))),pv (mlF (suF (mlF (adF Y1 X1) (adF Y2 X2)) (mlF (suF Y1 X1) (suF Y2 X2))) (suF (adF (mlF Z1 Z2) (mlF Z1 Z2)) (mlF (mlF T1 K) T2))) (mlF (adF (adF (mlF Z1 Z2) (mlF Z1 Z2)) (mlF (mlF T1 K) T2)) (adF (mlF (adF Y1 X1) (adF Y2 X2)) (mlF (suF Y1 X1) (suF Y2 X2)))) (mlF (suF (adF (mlF Z1 Z2) (mlF Z1 Z2)) (mlF (mlF T1 K) T2)) (adF (adF (mlF Z1 Z2) (mlF Z1 Z2)) (mlF (mlF T1 K) T2))) (mlF (suF (mlF (adF Y1 X1) (adF Y2 X2)) (mlF (suF Y1 X1) (suF Y2 X2))) (adF (mlF (adF Y1 X1) (adF Y2 X2)) (mlF (suF Y1 X1) (suF Y2 X2))))]
      (Pm w [(g14,70,(uv (fam 5 (adF (mlF (adF Y1 X1) (adF Y2 X2)) (mlF (suF Y1 X1) (suF Y2 X2))))).toArray),(g13,70,(uv (fam 5 (adF (adF (mlF Z1 Z2) (mlF Z1 Z2)) (mlF (mlF T1 K) T2)))).toArray),(g12,70,(uv (fam 5 (suF (adF (mlF Z1 Z2) (mlF Z1 Z2)) (mlF (mlF T1 K) T2)))).toArray),(g11,70,(uv (fam 5 (suF (mlF (adF Y1 X1) (adF Y2 X2)) (mlF (suF Y1 X1) (suF Y2 X2))))).toArray),(g10,70,(uv (fam 5 (adF (mlF Z1 Z2) (mlF Z1 Z2)))).toArray),(g9,70,(uv (fam 5 (mlF (mlF T1 K) T2))).toArray),(g8,70,(uv (fam 5 (mlF (adF Y1 X1) (adF Y2 X2)))).toArray),(g7,70,(uv (fam 5 (mlF (suF Y1 X1) (suF Y2 X2)))).toArray),(g6,72,(ptc a0j a0j a0j a0j).toArray),(g5,70,(uv (fam 5 K)).toArray),(g4,72,(ptc X2 Y2 Z2 T2).toArray),(g3,72,(ptc X1 Y1 Z1 T1).toArray)]) (by kernel_rfl) rfl rfl (by kernel_rfl) t.out.drew (fun u u' h hk=>h.kept hk) ?_ ?_
     ·refine⟨?_,?_,?_,?_,?_,?_,?_,?_,?_,?_,?_,?_,?_,trivial⟩
      ·exact fun a' u K0 R hS hr ho h=>a0o a0c (.tmp 11) rfl ((ho 11 (by decide)).trans rfl) (hS.s (g11,70,(uv (fam 5 (suF (mlF (adF Y1 X1) (adF Y2 X2)) (mlF (suF Y1 X1) (suF Y2 X2))))).toArray) (by simp)) rfl (h u (Kept.refl _ _))
      ·exact fun a' u K0 R hS hr ho h=>a0o a0c (.tmp 12) rfl ((ho 12 (by decide)).trans rfl) (hS.s (g12,70,(uv (fam 5 (suF (adF (mlF Z1 Z2) (mlF Z1 Z2)) (mlF (mlF T1 K) T2)))).toArray) (by simp)) rfl (h u (Kept.refl _ _))
      ·refine fun a' u K0 R hS hr ho h=>?_
       refine a0n rfl a1e (vs:=#[el (suF (mlF (adF Y1 X1) (adF Y2 X2)) (mlF (suF Y1 X1) (suF Y2 X2))),el (suF (adF (mlF Z1 Z2) (mlF Z1 Z2)) (mlF (mlF T1 K) T2))]) ?_ (k14.out u) h;have h0:=hr 0 (el (suF (mlF (adF Y1 X1) (adF Y2 X2)) (mlF (suF Y1 X1) (suF Y2 X2)))) 64 _ rfl rfl rfl ⟨⟨0,.data⟩,by simp,rfl,rfl⟩;have h1:=hr 1 (el (suF (adF (mlF Z1 Z2) (mlF Z1 Z2)) (mlF (mlF T1 K) T2))) 65 _ rfl rfl rfl ⟨⟨1,.data⟩,by simp,rfl,rfl⟩;simp [Act.eval]at h0 h1 ⊢;exact⟨h0,h1⟩
      ·exact fun a' u K0 R hS hr ho h=>a0o a0c (.tmp 13) rfl ((ho 13 (by decide)).trans rfl) (hS.s (g13,70,(uv (fam 5 (adF (adF (mlF Z1 Z2) (mlF Z1 Z2)) (mlF (mlF T1 K) T2)))).toArray) (by simp)) rfl (h u (Kept.refl _ _))
      ·exact fun a' u K0 R hS hr ho h=>a0o a0c (.tmp 14) rfl ((ho 14 (by decide)).trans rfl) (hS.s (g14,70,(uv (fam 5 (adF (mlF (adF Y1 X1) (adF Y2 X2)) (mlF (suF Y1 X1) (suF Y2 X2))))).toArray) (by simp)) rfl (h u (Kept.refl _ _))
      ·refine fun a' u K0 R hS hr ho h=>?_
       refine a0n rfl a1e (vs:=#[el (adF (adF (mlF Z1 Z2) (mlF Z1 Z2)) (mlF (mlF T1 K) T2)),el (adF (mlF (adF Y1 X1) (adF Y2 X2)) (mlF (suF Y1 X1) (suF Y2 X2)))]) ?_ (k15.out u) h;have h0:=hr 3 (el (adF (adF (mlF Z1 Z2) (mlF Z1 Z2)) (mlF (mlF T1 K) T2))) 67 _ rfl rfl rfl ⟨⟨3,.data⟩,by simp,rfl,rfl⟩;have h1:=hr 4 (el (adF (mlF (adF Y1 X1) (adF Y2 X2)) (mlF (suF Y1 X1) (suF Y2 X2)))) 68 _ rfl rfl rfl ⟨⟨4,.data⟩,by simp,rfl,rfl⟩;simp [Act.eval]at h0 h1 ⊢;exact⟨h0,h1⟩
      ·exact fun a' u K0 R hS hr ho h=>a0o a0c (.tmp 12) rfl ((ho 12 (by decide)).trans rfl) (hS.s (g12,70,(uv (fam 5 (suF (adF (mlF Z1 Z2) (mlF Z1 Z2)) (mlF (mlF T1 K) T2)))).toArray) (by simp)) rfl (h u (Kept.refl _ _))
      ·exact fun a' u K0 R hS hr ho h=>a0o a0c (.tmp 13) rfl ((ho 13 (by decide)).trans rfl) (hS.s (g13,70,(uv (fam 5 (adF (adF (mlF Z1 Z2) (mlF Z1 Z2)) (mlF (mlF T1 K) T2)))).toArray) (by simp)) rfl (h u (Kept.refl _ _))
      ·refine fun a' u K0 R hS hr ho h=>?_
       refine a0n rfl a1e (vs:=#[el (suF (adF (mlF Z1 Z2) (mlF Z1 Z2)) (mlF (mlF T1 K) T2)),el (adF (adF (mlF Z1 Z2) (mlF Z1 Z2)) (mlF (mlF T1 K) T2))]) ?_ (k16.out u) h;have h0:=hr 6 (el (suF (adF (mlF Z1 Z2) (mlF Z1 Z2)) (mlF (mlF T1 K) T2))) 70 _ rfl rfl rfl ⟨⟨6,.data⟩,by simp,rfl,rfl⟩;have h1:=hr 7 (el (adF (adF (mlF Z1 Z2) (mlF Z1 Z2)) (mlF (mlF T1 K) T2))) 71 _ rfl rfl rfl ⟨⟨7,.data⟩,by simp,rfl,rfl⟩;simp [Act.eval]at h0 h1 ⊢;exact⟨h0,h1⟩
      ·exact fun a' u K0 R hS hr ho h=>a0o a0c (.tmp 11) rfl ((ho 11 (by decide)).trans rfl) (hS.s (g11,70,(uv (fam 5 (suF (mlF (adF Y1 X1) (adF Y2 X2)) (mlF (suF Y1 X1) (suF Y2 X2))))).toArray) (by simp)) rfl (h u (Kept.refl _ _))
      ·exact fun a' u K0 R hS hr ho h=>a0o a0c (.tmp 14) rfl ((ho 14 (by decide)).trans rfl) (hS.s (g14,70,(uv (fam 5 (adF (mlF (adF Y1 X1) (adF Y2 X2)) (mlF (suF Y1 X1) (suF Y2 X2))))).toArray) (by simp)) rfl (h u (Kept.refl _ _))
      ·refine fun a' u K0 R hS hr ho h=>?_
       refine a0n rfl a1e (vs:=#[el (suF (mlF (adF Y1 X1) (adF Y2 X2)) (mlF (suF Y1 X1) (suF Y2 X2))),el (adF (mlF (adF Y1 X1) (adF Y2 X2)) (mlF (suF Y1 X1) (suF Y2 X2)))]) ?_ (k17.out u) h;have h0:=hr 9 (el (suF (mlF (adF Y1 X1) (adF Y2 X2)) (mlF (suF Y1 X1) (suF Y2 X2)))) 73 _ rfl rfl rfl ⟨⟨9,.data⟩,by simp,rfl,rfl⟩;have h1:=hr 10 (el (adF (mlF (adF Y1 X1) (adF Y2 X2)) (mlF (suF Y1 X1) (suF Y2 X2)))) 74 _ rfl rfl rfl ⟨⟨10,.data⟩,by simp,rfl,rfl⟩;simp [Act.eval]at h0 h1 ⊢;exact⟨h0,h1⟩
      ·refine fun a' u K0 R hS hr ho h=>?_
       have h0:=hr 2 (el (mlF (suF (mlF (adF Y1 X1) (adF Y2 X2)) (mlF (suF Y1 X1) (suF Y2 X2))) (suF (adF (mlF Z1 Z2) (mlF Z1 Z2)) (mlF (mlF T1 K) T2)))) 66 _ rfl rfl rfl ⟨⟨2,.data⟩,by simp,rfl,rfl⟩;have h1:=hr 5 (el (mlF (adF (adF (mlF Z1 Z2) (mlF Z1 Z2)) (mlF (mlF T1 K) T2)) (adF (mlF (adF Y1 X1) (adF Y2 X2)) (mlF (suF Y1 X1) (suF Y2 X2))))) 69 _ rfl rfl rfl ⟨⟨5,.data⟩,by simp,rfl,rfl⟩;have h2:=hr 8 (el (mlF (suF (adF (mlF Z1 Z2) (mlF Z1 Z2)) (mlF (mlF T1 K) T2)) (adF (adF (mlF Z1 Z2) (mlF Z1 Z2)) (mlF (mlF T1 K) T2)))) 72 _ rfl rfl rfl ⟨⟨8,.data⟩,by simp,rfl,rfl⟩;have h3:=hr 11 (el (mlF (suF (mlF (adF Y1 X1) (adF Y2 X2)) (mlF (suF Y1 X1) (suF Y2 X2))) (adF (mlF (adF Y1 X1) (adF Y2 X2)) (mlF (suF Y1 X1) (suF Y2 X2))))) 75 _ rfl rfl rfl ⟨⟨11,.data⟩,by simp,rfl,rfl⟩;exact b1t rfl h0 h1 h2 h3 (h u (Kept.refl _ _))
     intro u7 hS7;simp [a1f,List.range,List.range.loop,Act.put];refine a5k a0l (.tmp 6) (.tmp 76) rfl rfl rfl (hS7.s (g6,72,(ptc a0j a0j a0j a0j).toArray) (by simp)) (a5s _ _ _ _) (a5s _ _ _ _) (c7f _ _ _ _) ?_;simp [Act.put];have b7:=(hS7.s (g6,72,(ptc a0j a0j a0j a0j).toArray) (by simp)).a5i (ptc (mlF (suF (mlF (adF Y1 X1) (adF Y2 X2)) (mlF (suF Y1 X1) (suF Y2 X2))) (suF (adF (mlF Z1 Z2) (mlF Z1 Z2)) (mlF (mlF T1 K) T2))) (mlF (adF (adF (mlF Z1 Z2) (mlF Z1 Z2)) (mlF (mlF T1 K) T2)) (adF (mlF (adF Y1 X1) (adF Y2 X2)) (mlF (suF Y1 X1) (suF Y2 X2)))) (mlF (suF (adF (mlF Z1 Z2) (mlF Z1 Z2)) (mlF (mlF T1 K) T2)) (adF (adF (mlF Z1 Z2) (mlF Z1 Z2)) (mlF (mlF T1 K) T2))) (mlF (suF (mlF (adF Y1 X1) (adF Y2 X2)) (mlF (suF Y1 X1) (suF Y2 X2))) (adF (mlF (adF Y1 X1) (adF Y2 X2)) (mlF (suF Y1 X1) (suF Y2 X2))))).toArray;have kk7:Kept [g6] u7 (u7.setRow g6 (ptc (mlF (suF (mlF (adF Y1 X1) (adF Y2 X2)) (mlF (suF Y1 X1) (suF Y2 X2))) (suF (adF (mlF Z1 Z2) (mlF Z1 Z2)) (mlF (mlF T1 K) T2))) (mlF (adF (adF (mlF Z1 Z2) (mlF Z1 Z2)) (mlF (mlF T1 K) T2)) (adF (mlF (adF Y1 X1) (adF Y2 X2)) (mlF (suF Y1 X1) (suF Y2 X2)))) (mlF (suF (adF (mlF Z1 Z2) (mlF Z1 Z2)) (mlF (mlF T1 K) T2)) (adF (adF (mlF Z1 Z2) (mlF Z1 Z2)) (mlF (mlF T1 K) T2))) (mlF (suF (mlF (adF Y1 X1) (adF Y2 X2)) (mlF (suF Y1 X1) (suF Y2 X2))) (adF (mlF (adF Y1 X1) (adF Y2 X2)) (mlF (suF Y1 X1) (suF Y2 X2))))).toArray):=(Kept.refl [g6] u7).setRow (.inl (by simp)) _;have k7:=hS7.k.a0r kk7 hl6.out;clear kk7 hS7;go_wp2_with fail
     exact a1m a0l rfl rfl b7 (a5s _ _ _ _) rfl ⟨rfl,k7⟩
end Go.Proofs.YtdbngnlpafcogaaGreat
namespace Go.Proofs.YtdbngnlpafcogaaGreat
open Go.RowKit Go.Mem Go.Txt
theorem c1g(xs:Array Value)(w:World):(callFunc 114 xs).run Tryz.prog w= .ok (.enter 114 xs) w:=enters_of (c:=_) Tryz.func114 (by kernel_rfl) rfl xs w
theorem e3u:∀w,Calls Tryz.prog 114 #[.int .u64 1] w fun e w'=>e= .returned (el (smL 1))∧Kept [] w w':=fun w=>b5t 1 w (by decide)
theorem e2v:∀w,Calls Tryz.prog 114 #[.int .u64 0] w fun e w'=>e= .returned (el (smL 0))∧Kept [] w w':=fun w=>b5t 0 w (by decide)
abbrev AfC(X Y:Nat→Nat):Prop:=∀W,Calls Tryz.prog 89 #[el X,el Y] W fun e w'=>e= .returned (pv X Y (smL 1) (mlF X Y))∧Kept [] W w'
set_option maxHeartbeats 1600000 in
theorem b0d(X Y:Nat→Nat)(lX:Lim X)(lY:Lim Y):AfC X Y:=by
 intro w;have cm:=hjd (b1i lX lY);clear lX lY;go_enter Tryz.func89,Tryz.ntmps89;go_wp2_with (first
  | ((with_reducible refine a0q (o:=⟨some 2,_,_,_,_,_⟩) (v:=el X) rfl (.tmp 0) rfl rfl ?_);intro g2 w2 m2)
  | ((with_reducible refine a0q (o:=⟨some 3,_,_,_,_,_⟩) (v:=el Y) rfl (.tmp 1) rfl rfl ?_);intro g3 w3 m3)
  | ((with_reducible refine a0h (o:=⟨some 4,_,_,_,_,_⟩) rfl rfl c6o ?_);intro g4 w4 m4))
 have t0:=((((Pm.none w).kept m2.kept).cons m2.blk).kept m3.kept |>.cons m3.blk).kept m4.kept;have hl4:=hjd (Nat.le_trans (m2.kept.a0g m3.kept).size m4.le);have t:=hjd (show Pm w [(g4,72,(ptc a0j a0j a0j a0j).toArray),(g3,70,(uv (fam 5 Y)).toArray),(g2,70,(uv (fam 5 X)).toArray)] w4 from t0.cons m4.blk);clear m2 m3 m4 t0;refine a6n (by kernel_rfl) [el X,el Y,el (smL 1),el X,el Y,el (mlF X Y),pv X Y (smL 1) (mlF X Y)]
  (Pm w [(g4,72,(ptc a0j a0j a0j a0j).toArray),(g3,70,(uv (fam 5 Y)).toArray),(g2,70,(uv (fam 5 X)).toArray)]) (by kernel_rfl) rfl rfl (by kernel_rfl) t.out.drew (fun u u' h hk=>h.kept hk) ?_ ?_
 ·refine⟨?_,?_,?_,?_,?_,?_,?_,trivial⟩
  ·exact fun a' u K0 R hS hr ho h=>a0o a0c (.tmp 2) rfl ((ho 2 (by decide)).trans rfl) (hS.s (g2,70,(uv (fam 5 X)).toArray) (by simp)) rfl (h u (Kept.refl _ _))
  ·exact fun a' u K0 R hS hr ho h=>a0o a0c (.tmp 3) rfl ((ho 3 (by decide)).trans rfl) (hS.s (g3,70,(uv (fam 5 Y)).toArray) (by simp)) rfl (h u (Kept.refl _ _))
  ·exact fun a' u K0 R hS hr ho h=>a0n rfl c1g (vs:=#[.int .u64 1]) (by simp [Act.eval]) (e3u u) h
  ·exact fun a' u K0 R hS hr ho h=>a0o a0c (.tmp 2) rfl ((ho 2 (by decide)).trans rfl) (hS.s (g2,70,(uv (fam 5 X)).toArray) (by simp)) rfl (h u (Kept.refl _ _))
  ·exact fun a' u K0 R hS hr ho h=>a0o a0c (.tmp 3) rfl ((ho 3 (by decide)).trans rfl) (hS.s (g3,70,(uv (fam 5 Y)).toArray) (by simp)) rfl (h u (Kept.refl _ _))
  ·refine fun a' u K0 R hS hr ho h=>?_
   refine a0n rfl a1e (vs:=#[el X,el Y]) ?_ (cm.out u) h;have h0:=hr 3 (el X) 8 _ rfl rfl rfl ⟨⟨3,.data⟩,by simp,rfl,rfl⟩;have h1:=hr 4 (el Y) 9 _ rfl rfl rfl ⟨⟨4,.data⟩,by simp,rfl,rfl⟩;simp [Act.eval]at h0 h1 ⊢;exact⟨h0,h1⟩
  ·refine fun a' u K0 R hS hr ho h=>?_
   have h0:=hr 0 (el X) 5 _ rfl rfl rfl ⟨⟨0,.data⟩,by simp,rfl,rfl⟩;have h1:=hr 1 (el Y) 6 _ rfl rfl rfl ⟨⟨1,.data⟩,by simp,rfl,rfl⟩;have h2:=hr 2 (el (smL 1)) 7 _ rfl rfl rfl ⟨⟨2,.data⟩,by simp,rfl,rfl⟩;have h3:=hr 5 (el (mlF X Y)) 10 _ rfl rfl rfl ⟨⟨5,.data⟩,by simp,rfl,rfl⟩;exact b1t rfl h0 h1 h2 h3 (h u (Kept.refl _ _))
 intro u7 hS7;simp [a1f,List.range,List.range.loop,Act.put];refine a5k a0l (.tmp 4) (.tmp 11) rfl rfl rfl (hS7.s (g4,72,(ptc a0j a0j a0j a0j).toArray) (by simp)) (a5s _ _ _ _) (a5s _ _ _ _) (c7f _ _ _ _) ?_;simp [Act.put];have b7:=(hS7.s (g4,72,(ptc a0j a0j a0j a0j).toArray) (by simp)).a5i (ptc X Y (smL 1) (mlF X Y)).toArray;have kk7:Kept [g4] u7 (u7.setRow g4 (ptc X Y (smL 1) (mlF X Y)).toArray):=(Kept.refl [g4] u7).setRow (.inl (by simp)) _;have k7:=hS7.k.a0r kk7 hl4.out;clear kk7 hS7;go_wp2_with fail;exact a1m a0l rfl rfl b7 (a5s _ _ _ _) rfl ⟨rfl,k7⟩
def li(X:Nat→Nat):List Lit:=(fam 5 X).map fun(n:Nat)=>Lit.int .u64 (n:Int)
def lits(X Y Z T:Nat→Nat):List Lit:=li X ++ (li Y ++ (li Z ++ li T))
theorem wf64(n:Nat)(h:n < 18446744073709551616):(Lit.int .u64 (n:Int)).wf=true:=by
 simp [Lit.wf,IntKind.min,IntKind.max,IntKind.signed,IntKind.bits];omega
theorem kl_u(d n:Nat)(h:n < 18446744073709551616):Tryz.prog.keyLits (d + 1) 67 [.int .u64 (n:Int)]=some [.int .u64 (n:Int)]:=by
 unfold Program.keyLits;rw [Tryz.underlying67];simp [wf64 n h]
theorem kl_a(d:Nat)(X:Nat→Nat)(h:Lim X):Tryz.prog.keyLits (d + 2) 68 (uv (fam 5 X))=some (li X):=by
 have hb:∀i,i < 5→X i < 18446744073709551616:=fun i hi=>by have:=h i hi;omega
 unfold Program.keyLits;rw [Tryz.underlying68];have c1:Tryz.prog.cellsOf 68=5:=by kernel_rfl
 have c2:Tryz.prog.cellsOf 67=1:=by kernel_rfl
 simp only [c1,c2];simp [fam,List.range,List.range.loop,li,kl_u d _ (hb 0 (by omega)),kl_u d _ (hb 1 (by omega)),kl_u d _ (hb 2 (by omega)),kl_u d _ (hb 3 (by omega)),kl_u d _ (hb 4 (by omega))]
theorem kl_e(d:Nat)(X:Nat→Nat)(h:Lim X):Tryz.prog.keyLits (d + 3) 70 (uv (fam 5 X))=some (li X):=by
 unfold Program.keyLits;rw [Tryz.underlying70];have c1:Tryz.prog.cellsOf 70=5:=by kernel_rfl
 have c2:Tryz.prog.cellsOf 68=5:=by kernel_rfl
 have hl:(uv (fam 5 X)).length=5:=by simp [a7c]
 have h5:=kl_a d X h;simp only [c1,hl];simp [c2,List.take_of_length_le (Nat.le_of_eq hl),h5]
theorem kl_p(d:Nat)(X Y Z T:Nat→Nat)(hX:Lim X)(hY:Lim Y)(hZ:Lim Z)(hT:Lim T):Tryz.prog.keyLits (d + 4) 72 (ptc X Y Z T)=some (lits X Y Z T):=by
 unfold Program.keyLits;rw [Tryz.underlying72];have c1:Tryz.prog.cellsOf 72=20:=by kernel_rfl
 have c2:Tryz.prog.cellsOf 70=5:=by kernel_rfl
 have hl:=c4u X Y Z T;have l5:∀F,(uv (fam 5 F)).length=5:=a2b;have e0:(ptc X Y Z T).take 5=uv (fam 5 X):=by unfold ptc;rw [List.take_left' (l5 X)]
 have e1:((ptc X Y Z T).drop 5).take 5=uv (fam 5 Y):=by unfold ptc;rw [List.drop_left' (l5 X),List.take_left' (l5 Y)]
 have e2:((ptc X Y Z T).drop 10).take 5=uv (fam 5 Z):=by unfold ptc;rw [←List.append_assoc,List.drop_left' (by rw [List.length_append,l5,l5]),List.take_left' (l5 Z)]
 have e3:((ptc X Y Z T).drop 15).take 5=uv (fam 5 T):=by unfold ptc;rw [←List.append_assoc,←List.append_assoc,List.drop_left' (by rw [List.length_append,List.length_append,l5,l5,l5]),List.take_of_length_le (Nat.le_of_eq (l5 T))]
 simp only [c1,hl];simp [lits,c2,e0,e1,e2,e3,kl_e d _ hX,kl_e d _ hY,kl_e d _ hZ,kl_e d _ hT]
theorem key_pt:Tryz.prog.keyTypeAt 10 72=true:=by kernel_rfl
theorem c1d(X Y Z T:Nat→Nat):(pv X Y Z T).formed Tryz.prog 72=true:=by kernel_rfl
theorem eq_pt{X Y Z T X' Y' Z' T':Nat→Nat}(hX:Lim X)(hY:Lim Y)(hZ:Lim Z)(hT:Lim T)(hX':Lim X')(hY':Lim Y')(hZ':Lim Z')(hT':Lim T')(W:World):∃r:Bool,(Op.equalIn 10000 72 (pv X Y Z T) (pv X' Y' Z' T')).run Tryz.prog W= .ok r W∧(r=true↔lits X Y Z T=lits X' Y' Z' T'):=
 run_equalIn_deep (P:=Tryz.prog) 9990 10 _ key_pt W 10 10 _ _ _ _ (c1d _ _ _ _) (c1d _ _ _ _) (kl_p 6 X Y Z T hX hY hZ hT) (kl_p 6 X' Y' Z' T' hX' hY' hZ' hT')
theorem c2w{X Y Z T X' Y' Z' T':Nat→Nat}(e:lits X Y Z T=lits X' Y' Z' T')(i:Nat)(hi:i < 5):X i=X' i∧Y i=Y' i∧Z i=Z' i∧T i=T' i:=by
 have g:∀k:Nat,(lits X Y Z T)[k]?=(lits X' Y' Z' T')[k]?:=fun k=>by rw [e]
 have h5:i=0∨i=1∨i=2∨i=3∨i=4:=by omega
 have g0:=g i;have g1:=g (5 + i);have g2:=g (10 + i);have g3:=g (15 + i);rcases h5 with rfl | rfl | rfl | rfl | rfl <;> simp [lits,li,fam,List.range,List.range.loop]at g0 g1 g2 g3 <;> omega
theorem b0k:Lim a0j:=fun _ _=>by unfold a0j;omega
theorem d2u:Tryz.prog.built 72 []=some (ptc a0j a0j a0j a0j).toArray:=by kernel_rfl
end Go.Proofs.YtdbngnlpafcogaaGreat
