/-
  Field: what powers come to: the plain law.
  Field: inverses: the walk.
  Field: a root of minus one; odd numbers.
  Field: roots: the walk.
  Field: what roots come to.
  Field: numbers of bytes: the plain law.
  Field: numbers of bytes: the walk.
  The curve: words for the walks.
  The curve: a sum: the walk.
  The curve: points of coordinates; equality of points; the neutral point in the place of the zero value.
-/
import Derived.Test.YtdbngnlpafcogaaZmFe15
import Derived.Test.YtdbngnlpafcogaaZmFam
import Derived.DeepKeys
set_option maxRecDepth 100000
namespace Go.Proofs.Ytdbngnlpafcogaa
open Go.RowKit Go.Mem Go.Txt
def mlM(x y:Nat):Nat:=x * y % PP
def sqM:Nat→Nat→Nat
 | 0,x=>x
 | k + 1,x=>mlM (sqM k x) (sqM k x)
theorem Rep.ml{F G:Nat→Nat}{x y:Nat}(h:Rep F x)(h2:Rep G y):Rep (mlF F G) (mlM x y):=⟨(h.mul h2).lim,by have:=(h.mul h2).val;unfold mlM;rw [Nat.mod_mod];exact this⟩
theorem Rep.sq{F:Nat→Nat}{x:Nat}(h:Rep F x):Rep (sqF F) (mlM x x):=h.ml h
theorem Rep.sn{F:Nat→Nat}{x:Nat}(h:Rep F x):∀k,Rep (sqn k F) (sqM k x)
 | 0=>h
 | k + 1=>(Rep.sn h k).sq
def Pw(x e y:Nat):Prop:=y % PP=x ^ e % PP
theorem Pw.one(x:Nat):Pw x 1 x:=by unfold Pw;rw [Nat.pow_one]
theorem Pw.ml{x a b y z:Nat}(h:Pw x a y)(h2:Pw x b z):Pw x (a + b) (mlM y z):=by
 unfold Pw mlM at *
 rw [Nat.mod_mod,Nat.mul_mod,h,h2,←Nat.mul_mod,Nat.pow_add]
theorem Pw.sn{x a y:Nat}(h:Pw x a y):∀k,Pw x (a * 2 ^ k) (sqM k y)
 | 0=>by rw [Nat.pow_zero,Nat.mul_one];exact h
 | k + 1=>by
   have:=(Pw.sn h k).ml (Pw.sn h k)
   rwa [show a * 2 ^ k + a * 2 ^ k=a * 2 ^ (k + 1)from by rw [Nat.pow_succ,←Nat.mul_assoc,Nat.mul_two]]at this
theorem Pw.to{x a b y:Nat}(h:Pw x a y)(e:a=b):Pw x b y:=e▸h
def d6g(x:Nat):Nat:=mlM x x
def m_qa(x:Nat):Nat:=sqM 2 (d6g x)
def c4p(x:Nat):Nat:=mlM (m_qa x) x
def b9q(x:Nat):Nat:=mlM (c4p x) (d6g x)
def m_qb(x:Nat):Nat:=mlM (b9q x) (b9q x)
def m_n5(x:Nat):Nat:=mlM (m_qb x) (c4p x)
def m_qc(x:Nat):Nat:=sqM 5 (m_n5 x)
def d3b(x:Nat):Nat:=mlM (m_qc x) (m_n5 x)
def m_qd(x:Nat):Nat:=sqM 10 (d3b x)
def d6u(x:Nat):Nat:=mlM (m_qd x) (d3b x)
def m_qe(x:Nat):Nat:=sqM 20 (d6u x)
def m_qf(x:Nat):Nat:=mlM (m_qe x) (d6u x)
def m_qg(x:Nat):Nat:=sqM 10 (m_qf x)
def d4o(x:Nat):Nat:=mlM (m_qg x) (d3b x)
def m_qh(x:Nat):Nat:=sqM 50 (d4o x)
def c5v(x:Nat):Nat:=mlM (m_qh x) (d4o x)
def m_qi(x:Nat):Nat:=sqM 100 (c5v x)
def m_qj(x:Nat):Nat:=mlM (m_qi x) (c5v x)
def m_qk(x:Nat):Nat:=sqM 50 (m_qj x)
def m_nn(x:Nat):Nat:=mlM (m_qk x) (d4o x)
theorem d5h{F:Nat→Nat}{x:Nat}(h:Rep F x):Rep (c0n F) (d6g x):=Rep.sq h
theorem rep_qa{F:Nat→Nat}{x:Nat}(h:Rep F x):Rep (e5t F) (m_qa x):=Rep.sn (d5h h) 2
theorem c5s{F:Nat→Nat}{x:Nat}(h:Rep F x):Rep (b3c F) (c4p x):=Rep.ml (rep_qa h) h
theorem c7f{F:Nat→Nat}{x:Nat}(h:Rep F x):Rep (a8s F) (b9q x):=Rep.ml (c5s h) (d5h h)
theorem rep_qb{F:Nat→Nat}{x:Nat}(h:Rep F x):Rep (e6c F) (m_qb x):=Rep.sq (c7f h)
theorem e1q{F:Nat→Nat}{x:Nat}(h:Rep F x):Rep (e1b F) (m_n5 x):=Rep.ml (rep_qb h) (c5s h)
theorem rep_qc{F:Nat→Nat}{x:Nat}(h:Rep F x):Rep (e5v F) (m_qc x):=Rep.sn (e1q h) 5
theorem c3p{F:Nat→Nat}{x:Nat}(h:Rep F x):Rep (b5y F) (d3b x):=Rep.ml (rep_qc h) (e1q h)
theorem rep_qd{F:Nat→Nat}{x:Nat}(h:Rep F x):Rep (e5s F) (m_qd x):=Rep.sn (c3p h) 10
theorem d5f{F:Nat→Nat}{x:Nat}(h:Rep F x):Rep (b9m F) (d6u x):=Rep.ml (rep_qd h) (c3p h)
theorem rep_qe{F:Nat→Nat}{x:Nat}(h:Rep F x):Rep (e5r F) (m_qe x):=Rep.sn (d5f h) 20
theorem rep_qf{F:Nat→Nat}{x:Nat}(h:Rep F x):Rep (e5l F) (m_qf x):=Rep.ml (rep_qe h) (d5f h)
theorem rep_qg{F:Nat→Nat}{x:Nat}(h:Rep F x):Rep (e5m F) (m_qg x):=Rep.sn (rep_qf h) 10
theorem c2u{F:Nat→Nat}{x:Nat}(h:Rep F x):Rep (b5z F) (d4o x):=Rep.ml (rep_qg h) (c3p h)
theorem rep_qh{F:Nat→Nat}{x:Nat}(h:Rep F x):Rep (e5o F) (m_qh x):=Rep.sn (c2u h) 50
theorem c6i{F:Nat→Nat}{x:Nat}(h:Rep F x):Rep (b3a F) (c5v x):=Rep.ml (rep_qh h) (c2u h)
theorem rep_qi{F:Nat→Nat}{x:Nat}(h:Rep F x):Rep (e5w F) (m_qi x):=Rep.sn (c6i h) 100
theorem rep_qj{F:Nat→Nat}{x:Nat}(h:Rep F x):Rep (e5p F) (m_qj x):=Rep.ml (rep_qi h) (c6i h)
theorem rep_qk{F:Nat→Nat}{x:Nat}(h:Rep F x):Rep (e6a F) (m_qk x):=Rep.sn (rep_qj h) 50
theorem e0o{F:Nat→Nat}{x:Nat}(h:Rep F x):Rep (c2e F) (m_nn x):=Rep.ml (rep_qk h) (c2u h)
theorem d9q(x:Nat):Pw x 2 (d6g x):=(Pw.ml (Pw.one x) (Pw.one x)).to (by decide +kernel)
theorem pw_qa(x:Nat):Pw x 8 (m_qa x):=(Pw.sn (d9q x) 2).to (by decide +kernel)
theorem d3q(x:Nat):Pw x 9 (c4p x):=(Pw.ml (pw_qa x) (Pw.one x)).to (by decide +kernel)
theorem c3l(x:Nat):Pw x 11 (b9q x):=(Pw.ml (d3q x) (d9q x)).to (by decide +kernel)
theorem pw_qb(x:Nat):Pw x 22 (m_qb x):=(Pw.ml (c3l x) (c3l x)).to (by decide +kernel)
theorem pw_n5(x:Nat):Pw x 31 (m_n5 x):=(Pw.ml (pw_qb x) (d3q x)).to (by decide +kernel)
theorem pw_qc(x:Nat):Pw x 992 (m_qc x):=(Pw.sn (pw_n5 x) 5).to (by decide +kernel)
theorem c9s(x:Nat):Pw x 1023 (d3b x):=(Pw.ml (pw_qc x) (pw_n5 x)).to (by decide +kernel)
theorem pw_qd(x:Nat):Pw x 1047552 (m_qd x):=(Pw.sn (c9s x) 10).to (by decide +kernel)
theorem d9k(x:Nat):Pw x 1048575 (d6u x):=(Pw.ml (pw_qd x) (c9s x)).to (by decide +kernel)
theorem pw_qe(x:Nat):Pw x 1099510579200 (m_qe x):=(Pw.sn (d9k x) 20).to (by decide +kernel)
theorem pw_qf(x:Nat):Pw x 1099511627775 (m_qf x):=(Pw.ml (pw_qe x) (d9k x)).to (by decide +kernel)
theorem pw_qg(x:Nat):Pw x 1125899906841600 (m_qg x):=(Pw.sn (pw_qf x) 10).to (by decide +kernel)
theorem d3l(x:Nat):Pw x 1125899906842623 (d4o x):=(Pw.ml (pw_qg x) (c9s x)).to (by decide +kernel)
theorem pw_qh(x:Nat):Pw x 1267650600228228275596796362752 (m_qh x):=(Pw.sn (d3l x) 50).to (by decide +kernel)
theorem c9r(x:Nat):Pw x 1267650600228229401496703205375 (c5v x):=(Pw.ml (pw_qh x) (d3l x)).to (by decide +kernel)
theorem pw_qi(x:Nat):Pw x 1606938044258990275541962092339894951921974764381296132096000 (m_qi x):=(Pw.sn (c9r x) 100).to (by decide +kernel)
theorem pw_qj(x:Nat):Pw x 1606938044258990275541962092341162602522202993782792835301375 (m_qj x):=(Pw.ml (pw_qi x) (c9r x)).to (by decide +kernel)
theorem pw_qk(x:Nat):Pw x 1809251394333065553493296640760748560207343510400633813116523624223735808000 (m_qk x):=(Pw.sn (pw_qj x) 50).to (by decide +kernel)
theorem pw_nn(x:Nat):Pw x 1809251394333065553493296640760748560207343510400633813116524750123642650623 (m_nn x):=(Pw.ml (pw_qk x) (d3l x)).to (by decide +kernel)
def b9f(F:Nat→Nat):Nat→Nat:=mlF (sqn 5 (c2e F)) (a8s F)
def b7h(x:Nat):Nat:=mlM (sqM 5 (m_nn x)) (b9q x)
theorem b3z{F:Nat→Nat}(h:Lim F):Lim (b9f F):=a0i (a5d (a9s h) 5) (a9y h)
theorem Rep.inv{F:Nat→Nat}{x:Nat}(h:Rep F x):Rep (b9f F) (b7h x):=((e0o h).sn 5).ml (c7f h)
theorem e1y(x:Nat):Pw x 57896044618658097711785492504343953926634992332820282019728792003956564819947 (b7h x):=(((pw_nn x).sn 5).ml (c3l x)).to (by decide +kernel)
def b0c(F:Nat→Nat):Nat→Nat:=mlF (sqn 2 (c2e F)) (sqF F)
def c2m(x:Nat):Nat:=mlM (sqM 2 (m_nn x)) (mlM x x)
theorem b8m{F:Nat→Nat}(h:Lim F):Lim (b0c F):=a0i (a5d (a9s h) 2) (b4t h)
theorem Rep.try{F:Nat→Nat}{x:Nat}(h:Rep F x):Rep (b0c F) (c2m x):=((e0o h).sn 2).ml h.sq
theorem e4v(x:Nat):Pw x 7237005577332262213973186563042994240829374041602535252466099000494570602494 (c2m x):=(((pw_nn x).sn 2).ml ((Pw.one x).ml (Pw.one x))).to (by decide +kernel)
end Go.Proofs.Ytdbngnlpafcogaa
namespace Go.Proofs.Ytdbngnlpafcogaa
open Go.RowKit Go.Mem Go.Txt
set_option maxHeartbeats 1600000 in
theorem d3v(F:Nat→Nat)(hF:Lim F)(w:World) :
 Calls Try.prog 71 #[el F] w fun e w'=>e= .returned (el (b9f F))∧Kept [] w w':=by
 have co:=fun W=>c5e F hF W
 have c5:SnC 5 (c2e F) (sqn 5 (c2e F)):=a6z 5 _ (a9s hF) (by decide)
 have cm:MlC (sqn 5 (c2e F)) (a8s F) (b9f F):=a4d _ _ (a5d (a9s hF) 5) (a9y hF)
 generalize c2e F=nn,a8s F=ee,b9f F=rr at *
 generalize sqn 5 nn=n5 at *
 replace co:=hjd co
 replace c5:=hjd c5
 replace cm:=hjd cm
 clear hF
 go_enter Try.func71,Try.ntmps71
 go_wp2_with (first
  | ((with_reducible refine a0p (o:=⟨some 1,_,_,_,_,_⟩) (v:=el F) rfl (.tmp 0) rfl rfl ?_);intro g1 w1 m1)
  | ((with_reducible refine a0h (o:=⟨some 2,_,_,_,_,_⟩) rfl rfl a1b ?_);intro g2 w2 m2;have H:=hjd (Els.none w2);have D:=hjd (And.intro (Nat.le_trans m1.kept.size m2.le) (And.intro m1.le (And.intro (m2.ne m1.blk.lt) (m1.kept.a0f m2.kept))));have B1:=hjd (m1.blk.kept m2.kept (by simp));have B2:=hjd m2.blk;clear m1 m2)
  | (with_reducible refine a0d (o:=⟨some 6,_,_,_,_,_⟩) a0b rfl (.tmp 1) rfl rfl (B1.out.kept H.out.k (by simp)) rfl ?_)
  | (go_at_call 98;refine(co.out _).mono ?_;rintro e u1 ⟨rfl,kk⟩;have H:=hjd (H.out.kept kk);clear kk)
  | ((with_reducible refine a0h (o:=⟨some 3,_,_,_,_,_⟩) rfl rfl a1b ?_);intro q3 x3 m3;have H:=hjd (H.out.put m3 m3.blk (Kept.refl _ _));clear m3)
  | ((with_reducible refine a0h (o:=⟨some 4,_,_,_,_,_⟩) rfl rfl a1b ?_);intro q4 x4 m4;have N:=hjd (m4.ne (H.out.s (q3,a0j) (by simp)).lt);have H:=hjd (H.out.put m4 m4.blk (Kept.refl _ _));clear m4)
  | ((with_reducible refine a0c (o:=⟨none,.store 83 (.tmp 3) (.tmp 8),_,_,_,_⟩) a0b rfl (.tmp 3) (.tmp 8) rfl rfl rfl (H.out.s (q3,a0j) (by simp)) rfl rfl (a0u _) ?_);intro v3 b3 k3;have B4:=hjd ((H.out.s (q4,a0j) (by simp)).kept k3 (by simpa using Ne.symm N.out)))
  | ((with_reducible refine a0c (o:=⟨none,.store 83 (.tmp 4) (.tmp 9),_,_,_,_⟩) a0b rfl (.tmp 4) (.tmp 9) rfl rfl rfl B4.out rfl rfl (a0u _) ?_);intro v4 b4 k4))
 have f3:=H.out.f (q3,a0j) (by simp)
 have f4:=H.out.f (q4,a0j) (by simp)
 have E:=hjd (show Els w2 [(q4,ee),(q3,nn)] v4 from
  ((show Els w2 [] v4 from⟨fun _ h=>absurd h (by simp),fun _ h=>absurd h (by simp),(H.out.k.a0r k3 f3).a0r k4 f4⟩).cons (b3.kept k4 (by simpa using N.out)) f3).cons b4 f4)
 clear b3 k3 b4 k4 H f3 f4
 have H:=hjd (E.out.fin B2.out B1.out (Ne.symm D.out.2.2.1))
 refine Txt.a1n [0,2] (Fin w2 g2 g1 [(q4,ee),(q3,nn)]) [[_,_],[_,_],[_],[]] (by kernel_rfl) (by kernel_rfl) rfl (H.out.kept (Kept.refl [] _).drew) (Txt.a0g ?_)
 have H:=hjd (H.out.kept (Kept.refl [] v4).drew)
 go_wp2_with (first
  | (with_reducible refine a0d (o:=⟨some 10,_,_,_,_,_⟩) a0b rfl (.tmp 3) rfl rfl (H.out.s (q3,nn) (by simp)) rfl ?_)
  | (go_at_call 99;refine(c5.out _).mono ?_;rintro e u5 ⟨rfl,kk⟩;have H:=hjd (H.out.kept kk);clear kk))
 refine⟨rfl,H.out,Txt.a0g ?_⟩
 go_wp2_with (first
  | (with_reducible refine a0d (o:=⟨some 12,_,_,_,_,_⟩) a0b rfl (.tmp 4) rfl rfl (H.out.s (q4,ee) (by simp)) rfl ?_)
  | (go_at_call 72;refine(cm.out _).mono ?_;rintro e u6 ⟨rfl,kk⟩;have H:=hjd (H.out.kept kk);clear kk))
 refine⟨rfl,H.out,Txt.a0g ?_⟩
 go_wp2_with (obtain⟨f2,hf2⟩:=H.out.b2;(with_reducible refine a0c (o:=⟨none,.store 83 (.tmp 2) (.tmp 13),_,_,_,_⟩) a0b rfl (.tmp 2) (.tmp 13) rfl rfl rfl hf2 rfl rfl (a0u _) ?_);clear hf2;intro v2 b2 k2;have H:=hjd (H.out.put2 b2 k2);have C2:=hjd b2;clear b2 k2)
 refine⟨rfl,H.out,Txt.a0g ?_⟩
 go_wp2_with fail
 refine⟨rfl,H.out,Txt.a1i ⟨⟨by kernel_rfl,?_⟩,?_⟩⟩
 ·intro j hj o ho _
  have hj2:j=0∨j=2:=by simpa using hj
  rcases hj2 with rfl | rfl <;> cases ho
  ·exact⟨10,rfl,fun u hu=>a1e a0b (.tmp 3) rfl rfl (hu.s (q3,nn) (by simp)) rfl⟩
  ·exact⟨12,rfl,fun u hu=>a1e a0b (.tmp 4) rfl rfl (hu.s (q4,ee) (by simp)) rfl⟩
 go_wp2_with fail
 exact a1k a0b rfl rfl C2.out rfl rfl ⟨rfl,(D.out.2.2.2).fresh H.out.k (fun x hx=>by simp at hx;rcases hx with rfl | rfl;exact D.out.1;exact D.out.2.1)⟩
end Go.Proofs.Ytdbngnlpafcogaa
namespace Go.Proofs.Ytdbngnlpafcogaa
open Go.RowKit Go.Mem Go.Txt
def m1F(i:Nat):Nat:=if i=0 then 1718705420411056 else if i=1 then 234908883556509 else if i=2 then 2233514472574048 else if i=3 then 2117202627021982 else 765476049583133
def M1:Nat:=19681161376707505956807079304988542015446066515923890162744021073123829784752
theorem d3n:Lim m1F:=by
 intro i _
 unfold m1F
 repeat' split
 all_goals decide
theorem m1_val:fv m1F=M1:=by decide +kernel
theorem rep_m1:Rep m1F M1:=⟨d3n,by rw [m1_val]⟩
set_option maxHeartbeats 800000 in
theorem c1z(w:World):Calls Try.prog 105 #[] w fun e w'=>e= .returned (el m1F)∧Kept [] w w':=by
 go_enter Try.func105,Try.ntmps105
 go_wp2_with (first
  | ((with_reducible refine a0h (o:=⟨some 0,_,_,_,_,_⟩) rfl rfl a1b ?_);intro g1 w1 m1)
  | (refine a0c (cs:=(uv (fam 5 m1F)).toArray) a0b rfl (.tmp 0) (.tmp 2) rfl rfl (by rfl) m1.blk rfl rfl (a0u _) ?_;intro w8 b8 k8))
 exact a1k a0b rfl rfl b8 rfl rfl ⟨rfl,m1.kept.a0r k8 m1.le⟩
theorem byte0(x:Nat):(bv (le x 32)).toArray[0]?=some (.int .u8 ((x % 256:Nat):Int)):=by
 have h:=b3h x 32 0 (by omega)
 have e:(le x 32)[0]?=some (UInt8.ofNat (x % 256)):=by
  rw [List.getElem?_eq_getElem (by rw [a0y];omega),h]
  simp
 simp only [bv,List.getElem?_toArray,List.getElem?_map,e,Option.map_some]
 show some (Value.int .u8 (((UInt8.ofNat (x % 256)).toNat:Nat):Int))=_
 rw [UInt8.toNat_ofNat',show x % 256 % 2 ^ 8=x % 256 from by omega]
set_option maxHeartbeats 800000 in
theorem c9u(F:Nat→Nat)(w:World)(hF:Lim F):Calls Try.prog 74 #[el F] w fun e w'=>e= .returned (.bool (decide (fv F % PP % 2=1)))∧Kept [] w w':=by
 have hh:=hjd (fun W=>a4z F W hF)
 obtain⟨X,hX⟩:∃X,X=fv F % PP:=⟨_,rfl⟩
 rw [←hX]at hh ⊢
 obtain⟨b,hb⟩:∃b,b=X % 256:=⟨_,rfl⟩
 have hi:∀W,(Instr.index 26 (ab (le X 32)) (.int .i64 0)).run Try.prog W= .ok (.int .u8 ((b:Nat):Int)) W:=fun W=>by
  have:=a6e a2k Try.underlying5 rfl (by kernel_rfl) .i64 0 (by omega) (byte0 X) W
  rw [←hb]at this
  exact this
 have hlt:b < 256:=by omega
 have hm:bits .and .u8 ((b:Nat):Int) 1=((b:Nat):Int) % 2:=bits_mask .u8 8 (by decide) wraps_u8 1 (by decide) _ (by omega) (by omega)
 rcases Nat.mod_two_eq_zero_or_one X with h | h
 ·have hm2:bits .and .u8 ((b:Nat):Int) 1=0:=by rw [hm];omega
  have hd:decide (X % 2=1)=false:=by simp [h]
  rw [hd]
  clear hd hm h hb hX hF
  go_enter Try.func74,Try.ntmps74
  go_wp2_with (first
   | ((with_reducible refine a0p (o:=⟨some 1,_,_,_,_,_⟩) (v:=el F) rfl (.tmp 0) rfl rfl ?_);intro g1 w1 m1)
   | (with_reducible refine a0d (o:=⟨some 3,_,_,_,_,_⟩) a0b rfl (.tmp 1) rfl rfl m1.blk rfl ?_)
   | (go_at_call 73;refine(hh.out _).mono ?_;rintro e u1 ⟨rfl,kk⟩;have H:=hjd (m1.kept.a0f kk);clear kk m1))
  go_ret
  exact⟨rfl,H.out⟩
 ·have hm2:bits .and .u8 ((b:Nat):Int) 1=1:=by rw [hm];omega
  have hd:decide (X % 2=1)=true:=by simp [h]
  rw [hd]
  clear hd hm h hb hX hF
  go_enter Try.func74,Try.ntmps74
  go_wp2_with (first
   | ((with_reducible refine a0p (o:=⟨some 1,_,_,_,_,_⟩) (v:=el F) rfl (.tmp 0) rfl rfl ?_);intro g1 w1 m1)
   | (with_reducible refine a0d (o:=⟨some 3,_,_,_,_,_⟩) a0b rfl (.tmp 1) rfl rfl m1.blk rfl ?_)
   | (go_at_call 73;refine(hh.out _).mono ?_;rintro e u1 ⟨rfl,kk⟩;have H:=hjd (m1.kept.a0f kk);clear kk m1))
  go_ret
  exact⟨rfl,H.out⟩
end Go.Proofs.Ytdbngnlpafcogaa
namespace Go.Proofs.Ytdbngnlpafcogaa
open Go.RowKit Go.Mem Go.Txt
theorem c8o(xs:Array Value)(w:World):(callFunc 71 xs).run Try.prog w= .ok (.enter 71 xs) w:=enters_of (c:=_) Try.func71 (by kernel_rfl) rfl xs w
theorem d4b(xs:Array Value)(w:World):(callFunc 105 xs).run Try.prog w= .ok (.enter 105 xs) w:=enters_of (c:=_) Try.func105 (by kernel_rfl) rfl xs w
theorem a5b{P:Program}{w:World}{o:Oper}{a:Act}{C:Act→World→Prop}{R:Exit→Act→World→Prop}{t:TypeId}{n:Nat}(T:RowT P t n)(x y:Operand)(ho:o.op= .store t x y){g:Nat}{cs old:Array Value}(hx:a.eval x= .pointer (some ⟨g,0,none⟩))(hy:a.eval y= .agg cs)
 {bt:TypeId} (hb:Blk w g bt old) (hold:old.size=n) (hn:cs.size=n) (h1:cs.all (·.oneCell')=true) (h:C (a.put o.dst undef) (w.setRow g cs)):o.wp P a w C R:=
 wp_store_row t x y ho g cs hx hy bt old hb (by rw [T.size,hn]) (by omega) h1 h
theorem a8e:Try.prog.built 83 []=some (uv (fam 5 a0j)).toArray:=by kernel_rfl
theorem c2w:Try.prog.built 26 []=some (bv (a0q 32)).toArray:=by kernel_rfl
theorem le_zero:le 0 32=a0q 32:=by decide +kernel
theorem c5n(x y:Nat)(hx:x < PP)(hy:y < PP):(le x 32 == le y 32)=decide (x=y):=by
 by_cases h:x=y
 ·subst h;simp
 ·have:le x 32≠le y 32:=fun e=>h (by
   have h1:=a6s 32 x
   have h2:=a6s 32 y
   rw [e,h2]at h1
   unfold PP at hx hy
   omega)
  simp [h,this]
theorem d2t(x y:Nat)(hx:x < PP)(hy:y < PP)(W:World):(Op.equalIn 10000 26 (ab (le x 32)) (ab (le y 32))).run Try.prog W= .ok (decide (x=y)) W:=by
 have:=a3k a2k Try.underlying5 (by kernel_rfl) (le x 32) (le y 32) (a0y _ _) (a0y _ _) W
 rwa [c5n x y hx hy]at this
def rtW(U V:Nat→Nat):Nat→Nat:=mlF U (b9f V)
def rtX(U V:Nat→Nat):Nat→Nat:=if fv (mlF (b0c (rtW U V)) (b0c (rtW U V))) % PP=fv (rtW U V) % PP then b0c (rtW U V)else mlF (b0c (rtW U V)) m1F
def rtB(U V:Nat→Nat):Bool:=decide (fv V % PP≠0) && decide (fv (mlF (rtX U V) (rtX U V)) % PP=fv (rtW U V) % PP)
def rtF(U V:Nat→Nat):Nat→Nat:=if rtB U V then(if fv (rtX U V) % PP % 2=1 then a5e (b0t a0j (rtX U V))else rtX U V)else a0j
theorem a7h:Lim a0j:=fun _ _=>by unfold a0j;omega
theorem c4i{U V:Nat→Nat}(hU:Lim U)(hV:Lim V):Lim (rtW U V):=a0i hU (b3z hV)
theorem d1t{U V:Nat→Nat}(hU:Lim U)(hV:Lim V):Lim (rtX U V):=by
 unfold rtX
 split
 ·exact b8m (c4i hU hV)
 ·exact a0i (b8m (c4i hU hV)) d3n
abbrev HaC(F:Nat→Nat)(x:Nat):Prop:=∀W,Calls Try.prog 73 #[el F] W fun e w'=>e= .returned (ab (le x 32))∧Kept [] W w'
abbrev OdC(F:Nat→Nat)(b:Bool):Prop:=∀W,Calls Try.prog 74 #[el F] W fun e w'=>e= .returned (.bool b)∧Kept [] W w'
abbrev SuC(F G R:Nat→Nat):Prop:=∀W,Calls Try.prog 79 #[el F,el G] W fun e w'=>e= .returned (el R)∧Kept [] W w'
structure RtM (w3:World) (q6 q9:Nat) (W X:Nat→Nat) (u:World):Prop where
 w:Blk u q6 83 (uv (fam 5 W)).toArray
 x:Blk u q9 83 (uv (fam 5 X)).toArray
 k:Kept [] w3 u
theorem RtM.kept{w3:World}{q6 q9:Nat}{W X:Nat→Nat}{u u':World}(h:RtM w3 q6 q9 W X u)(hk:Kept [] u u'):RtM w3 q6 q9 W X u':=⟨h.w.kept hk (by simp),h.x.kept hk (by simp),h.k.a0f hk⟩
theorem RtM.put{w3:World}{q6 q9:Nat}{W X Y:Nat→Nat}{u u':World}(h:RtM w3 q6 q9 W X u)(n:q6≠q9∧w3.heap.size≤q9)(b:Blk u' q9 83 (uv (fam 5 Y)).toArray)(hk:Kept [q9] u u'):RtM w3 q6 q9 W Y u':=⟨h.w.kept hk (by simpa using n.1),b,h.k.a0r hk n.2⟩
set_option maxHeartbeats 4000000 in
theorem b1b(U V:Nat→Nat)(hU:Lim U)(hV:Lim V)(w:World) :
 Calls Try.prog 78 #[el U,el V] w fun e w'=>e= .returned (.tuple #[el (rtF U V),.bool (rtB U V)])∧Kept [] w w':=by
 have hhv:HaC V (fv V % PP):=fun W=>a4z V W hV
 obtain⟨Z,hZ⟩:∃Z,Z=a0q 32:=⟨_,rfl⟩
 have hbb:Try.prog.built 26 []=some (bv Z).toArray:=by rw [hZ];exact c2w
 have eqv:∀W,(Op.equalIn 10000 26 (ab (le (fv V % PP) 32)) (ab Z)).run Try.prog W= .ok (decide (fv V % PP=0)) W:=fun W=>by
  rw [hZ,←le_zero];exact d2t _ _ (Nat.mod_lt _ a3i) a3i W
 clear hZ
 by_cases hv:fv V % PP=0
 ·have hB:rtB U V=false:=by unfold rtB;simp [hv]
  have hF:rtF U V=a0j:=by unfold rtF;rw [hB];rfl
  rw [hB,hF]
  rw [decide_eq_true hv]at eqv
  generalize fv V % PP=v at *
  clear hB hF hU hV hv
  replace hhv:=hjd hhv
  replace hbb:=hjd hbb
  go_enter Try.func78,Try.ntmps78
  go_wp2_with (first
   | ((with_reducible refine a0p (o:=⟨some 2,_,_,_,_,_⟩) (v:=el U) rfl (.tmp 0) rfl rfl ?_);intro g2 w1 m1)
   | ((with_reducible refine a0p (o:=⟨some 3,_,_,_,_,_⟩) (v:=el V) rfl (.tmp 1) rfl rfl ?_);intro g3 w2 m2)
   | ((with_reducible refine a0h (o:=⟨some 4,_,_,_,_,_⟩) rfl rfl a1b ?_);intro g4 w3 m3;have B3:=hjd (m2.blk.kept m3.kept (by simp));have B4:=hjd m3.blk;have D:=hjd (And.intro (Nat.le_trans (m1.kept.a0f m2.kept).size m3.le) ((m1.kept.a0f m2.kept).a0f m3.kept));clear m1 m2 m3)
   | (with_reducible refine a0d (o:=⟨some 10,_,_,_,_,_⟩) a0b rfl (.tmp 3) rfl rfl B3.out rfl ?_)
   | (go_at_call 73;refine(hhv.out _).mono ?_;rintro e u1 ⟨rfl,kk⟩;have B4:=hjd (B4.out.kept kk (by simp));have K4:=hjd (D.out.2.a0f kk);clear kk)
   | (with_reducible refine a1j (o:=⟨some 12,_,_,_,_,_⟩) rfl rfl hbb.out ?_)
   | (with_reducible refine a1j (o:=⟨some 14,_,_,_,_,_⟩) rfl rfl a8e ?_)
   | ((with_reducible refine a0c (o:=⟨none,.store 83 (.tmp 4) (.tmp 14),_,_,_,_⟩) a0b rfl (.tmp 4) (.tmp 14) rfl rfl rfl B4.out rfl rfl (a0u _) ?_);intro v4 b4 k4))
  exact a1z a0b rfl rfl b4 rfl rfl ⟨rfl,K4.out.a0r k4 D.out.1⟩
 ·have nv:decide (fv V % PP≠0)=true:=by simp [hv]
  have ci:∀W,Calls Try.prog 71 #[el V] W fun e w'=>e= .returned (el (b9f V))∧Kept [] W w':=fun W=>d3v V hV W
  have cm:MlC U (b9f V) (rtW U V):=a4d _ _ hU (b3z hV)
  have hW:=c4i hU hV
  have co:=fun W=>c5e (rtW U V) hW W
  have c2:SnC 2 (c2e (rtW U V)) (sqn 2 (c2e (rtW U V))):=a6z 2 _ (a9s hW) (by decide)
  have cs:SqC (rtW U V) (sqF (rtW U V)):=b8u _ hW
  have ct:MlC (sqn 2 (c2e (rtW U V))) (sqF (rtW U V)) (b0c (rtW U V)):=a4d _ _ (a5d (a9s hW) 2) (b4t hW)
  have hX0:=b8m hW
  have cq:MlC (b0c (rtW U V)) (b0c (rtW U V)) (mlF (b0c (rtW U V)) (b0c (rtW U V))):=a4d _ _ hX0 hX0
  have hs0:HaC (mlF (b0c (rtW U V)) (b0c (rtW U V))) (fv (mlF (b0c (rtW U V)) (b0c (rtW U V))) % PP):=fun W=>a4z _ W (a0i hX0 hX0)
  have hw0:HaC (rtW U V) (fv (rtW U V) % PP):=fun W=>a4z _ W hW
  have c1:=c1z
  have cm1:MlC (b0c (rtW U V)) m1F (mlF (b0c (rtW U V)) m1F):=a4d _ _ hX0 d3n
  have hX1:=d1t hU hV
  have cq1:MlC (rtX U V) (rtX U V) (mlF (rtX U V) (rtX U V)):=a4d _ _ hX1 hX1
  have hs1:HaC (mlF (rtX U V) (rtX U V)) (fv (mlF (rtX U V) (rtX U V)) % PP):=fun W=>a4z _ W (a0i hX1 hX1)
  have cod:OdC (rtX U V) (decide (fv (rtX U V) % PP % 2=1)):=fun W=>c9u _ W hX1
  have csu:SuC a0j (rtX U V) (a5e (b0t a0j (rtX U V))):=fun W=>c5f _ _ W a7h hX1
  have qq0:=c5n (fv (mlF (b0c (rtW U V)) (b0c (rtW U V))) % PP) (fv (rtW U V) % PP) (Nat.mod_lt _ a3i) (Nat.mod_lt _ a3i)
  have qq1:=c5n (fv (mlF (rtX U V) (rtX U V)) % PP) (fv (rtW U V) % PP) (Nat.mod_lt _ a3i) (Nat.mod_lt _ a3i)
  have eq0:=d2t (fv (mlF (b0c (rtW U V)) (b0c (rtW U V))) % PP) (fv (rtW U V) % PP) (Nat.mod_lt _ a3i) (Nat.mod_lt _ a3i)
  have eq1:=d2t (fv (mlF (rtX U V) (rtX U V)) % PP) (fv (rtW U V) % PP) (Nat.mod_lt _ a3i) (Nat.mod_lt _ a3i)
  have hxx:rtX U V=if decide (fv (mlF (b0c (rtW U V)) (b0c (rtW U V))) % PP=fv (rtW U V) % PP)=true then b0c (rtW U V)else mlF (b0c (rtW U V)) m1F:=by simp only [decide_eq_true_eq];rfl
  have hB:rtB U V=decide (fv (mlF (rtX U V) (rtX U V)) % PP=fv (rtW U V) % PP):=by unfold rtB;rw [nv,Bool.true_and]
  have hF:rtF U V=if rtB U V then(if decide (fv (rtX U V) % PP % 2=1)=true then a5e (b0t a0j (rtX U V))else rtX U V)else a0j:=by simp only [decide_eq_true_eq];rfl
  rw [hB]at hF
  rw [hB,hF]
  rw [decide_eq_false hv]at eqv
  clear hB hF hW hX0 hX1 nv hv hU hV
  generalize decide (fv (mlF (b0c (rtW U V)) (b0c (rtW U V))) % PP=fv (rtW U V) % PP)=t0 at *
  generalize decide (fv (mlF (rtX U V) (rtX U V)) % PP=fv (rtW U V) % PP)=t1 at *
  generalize decide (fv (rtX U V) % PP % 2=1)=od at *
  generalize fv (mlF (b0c (rtW U V)) (b0c (rtW U V))) % PP=s0,fv (mlF (rtX U V) (rtX U V)) % PP=s1,fv (rtW U V) % PP=w0,fv V % PP=v at *
  generalize mlF (rtX U V) (rtX U V)=S1,a5e (b0t a0j (rtX U V))=X2 at *
  generalize rtX U V=X1 at *
  generalize mlF (b0c (rtW U V)) (b0c (rtW U V))=S0,mlF (b0c (rtW U V)) m1F=XM at *
  generalize b0c (rtW U V)=X0 at *
  generalize sqn 2 (c2e (rtW U V))=n2,sqF (rtW U V)=sw at *
  generalize c2e (rtW U V)=nn,a8s (rtW U V)=ee at *
  generalize rtW U V=W,b9f V=I at *
  replace hhv:=hjd hhv
  replace hbb:=hjd hbb
  replace ci:=hjd ci
  replace cm:=hjd cm
  replace co:=hjd co
  replace c2:=hjd c2
  replace cs:=hjd cs
  replace ct:=hjd ct
  replace cq:=hjd cq
  replace hs0:=hjd hs0
  replace hw0:=hjd hw0
  replace c1:=hjd c1
  replace cm1:=hjd cm1
  replace cq1:=hjd cq1
  replace hs1:=hjd hs1
  replace cod:=hjd cod
  replace csu:=hjd csu
  replace hxx:=hjd hxx
  replace qq0:=hjd qq0
  replace qq1:=hjd qq1
  go_enter Try.func78,Try.ntmps78
  go_wp2_with (first
   | ((with_reducible refine a0p (o:=⟨some 2,_,_,_,_,_⟩) (v:=el U) rfl (.tmp 0) rfl rfl ?_);intro g2 w1 m1)
   | ((with_reducible refine a0p (o:=⟨some 3,_,_,_,_,_⟩) (v:=el V) rfl (.tmp 1) rfl rfl ?_);intro g3 w2 m2)
   | ((with_reducible refine a0h (o:=⟨some 4,_,_,_,_,_⟩) rfl rfl a1b ?_);intro g4 w3 m3;have H:=hjd (Els.none w3);have B2:=hjd ((m1.blk.kept m2.kept (by simp)).kept m3.kept (by simp));have B3:=hjd (m2.blk.kept m3.kept (by simp));have B4:=hjd m3.blk;have D:=hjd (And.intro (Nat.le_trans (m1.kept.a0f m2.kept).size m3.le) ((m1.kept.a0f m2.kept).a0f m3.kept));clear m1 m2 m3)
   | (with_reducible refine a0d (o:=⟨some 10,_,_,_,_,_⟩) a0b rfl (.tmp 3) rfl rfl (B3.out.kept H.out.k (by simp)) rfl ?_)
   | (go_at_call 73;(with_reducible refine(hhv.out _).mono ?_);rintro e u1 ⟨rfl,kk⟩;have H:=hjd (H.out.kept kk);clear kk)
   | (with_reducible refine a1j (o:=⟨some 12,_,_,_,_,_⟩) rfl rfl hbb.out ?_))
  refine a2i (by kernel_rfl) [.val (el U),.val (el V),.val (el I),.val (el W),.new 83 (el a0j),.put 4 3 (uv (fam 5 W)).toArray] (Els w3 []) (by kernel_rfl) (by kernel_rfl) H.out.drew (H.out.fresh) ?_ ?_
  ·refine⟨?_,?_,?_,?_,?_,?_,trivial⟩
   ·exact⟨⟨_,rfl⟩,fun a' u K0 R hS hr ho h=>a0n a0b (.tmp 2) rfl ((ho 2 (by decide)).trans rfl) (B2.out.kept hS.k (by simp)) rfl (h u (Kept.refl _ _))⟩
   ·exact⟨⟨_,rfl⟩,fun a' u K0 R hS hr ho h=>a0n a0b (.tmp 3) rfl ((ho 3 (by decide)).trans rfl) (B3.out.kept hS.k (by simp)) rfl (h u (Kept.refl _ _))⟩
   ·refine⟨⟨_,rfl⟩,fun a' u K0 R hS hr ho h=>?_⟩
    refine a0m rfl c8o (vs:=#[el V]) ?_ (ci.out u) h
    have h0:=hr 1 (el V) 16 _ rfl rfl rfl ⟨⟨1,.data⟩,by simp,rfl,rfl⟩
    simp [Act.eval]at h0 ⊢
    exact h0
   ·refine⟨⟨_,rfl⟩,fun a' u K0 R hS hr ho h=>?_⟩
    refine a0m rfl a1d (vs:=#[el U,el I]) ?_ (cm.out u) h
    have h0:=hr 0 (el U) 15 _ rfl rfl rfl ⟨⟨0,.data⟩,by simp,rfl,rfl⟩
    have h1:=hr 2 (el I) 17 _ rfl rfl rfl ⟨⟨2,.data⟩,by simp,rfl,rfl⟩
    simp [Act.eval]at h0 h1 ⊢
    exact⟨h0,h1⟩
   ·exact⟨⟨_,rfl⟩,rfl,a1b⟩
   ·exact⟨rfl,⟨⟨4,.data⟩,by simp,rfl,rfl⟩,⟨⟨3,.data⟩,by simp,rfl,rfl⟩,_,_,_,_,_,_,_,_,rfl,rfl,rfl,rfl,rfl,rfl,rfl,a0b,rfl,rfl,a0u _⟩
  intro γ r3 hS hγ hne hput
  have hl:=Nat.le_trans H.out.k.size (hγ 4 _ _ rfl)
  have b:=hput 5 4 3 _ _ _ rfl rfl
  generalize e7:γ 4=q6 at *
  simp [a1a,VK,List.range,List.range.loop,Act.put,e7]
  have H:=hjd (hS.cons b hl)
  clear b hl hput hne hγ hS e7
  go_wp2_with (first
   | (with_reducible refine a0d (o:=⟨some 20,_,_,_,_,_⟩) a0b rfl (.tmp 6) rfl rfl (H.out.s (q6,W) (by simp)) rfl ?_)
   | (go_at_call 98;(with_reducible refine(co.out _).mono ?_);rintro e u2 ⟨rfl,kk⟩;have H:=hjd (H.out.kept kk);clear kk)
   | ((with_reducible refine a0h (o:=⟨some 7,_,_,_,_,_⟩) rfl rfl a1b ?_);intro q7 x7 m7;have N7:=hjd (m7.ne (H.out.s (q6,W) (by simp)).lt);have H:=hjd (H.out.put m7 m7.blk (Kept.refl _ _));clear m7)
   | ((with_reducible refine a0h (o:=⟨some 8,_,_,_,_,_⟩) rfl rfl a1b ?_);intro q8 x8 m8;have N:=hjd (And.intro (m8.ne (H.out.s (q7,a0j) (by simp)).lt) (m8.ne (H.out.s (q6,W) (by simp)).lt));have H:=hjd (H.out.put m8 m8.blk (Kept.refl _ _));clear m8)
   | ((with_reducible refine a0c (o:=⟨none,.store 83 (.tmp 7) (.tmp 22),_,_,_,_⟩) a0b rfl (.tmp 7) (.tmp 22) rfl rfl rfl (H.out.s (q7,a0j) (by simp)) rfl rfl (a0u _) ?_);intro v7 b7 k7;have B8:=hjd ((H.out.s (q8,a0j) (by simp)).kept k7 (by simpa using Ne.symm N.out.1)))
   | ((with_reducible refine a0c (o:=⟨none,.store 83 (.tmp 8) (.tmp 23),_,_,_,_⟩) a0b rfl (.tmp 8) (.tmp 23) rfl rfl rfl B8.out rfl rfl (a0u _) ?_);intro v8 b8 k8))
  have f6:=H.out.f (q6,W) (by simp)
  have f7:=H.out.f (q7,a0j) (by simp)
  have f8:=H.out.f (q8,a0j) (by simp)
  have E:=hjd (show Els w3 [(q7,nn),(q6,W)] v8 from
   ((show Els w3 [] v8 from⟨fun _ h=>absurd h (by simp),fun _ h=>absurd h (by simp),(H.out.k.a0r k7 f7).a0r k8 f8⟩).cons (((H.out.s (q6,W) (by simp)).kept k7 (by simpa using N7.out)).kept k8 (by simpa using N.out.2)) f6).cons (b7.kept k8 (by simpa using N.out.1)) f7)
  clear b7 k7 b8 k8 H f6 f7 f8 N N7 B8
  have H:=hjd E.out
  refine a2i (by kernel_rfl) [.val (el nn),.val (el n2),.val (el W),.val (el sw),.val (el X0),.new 83 (el a0j),.put 5 4 (uv (fam 5 X0)).toArray] (Els w3 [(q7,nn),(q6,W)]) (by kernel_rfl) (by kernel_rfl) H.out.drew (H.out.fresh) ?_ ?_
  ·refine⟨?_,?_,?_,?_,?_,?_,?_,trivial⟩
   ·exact⟨⟨_,rfl⟩,fun a' u K0 R hS hr ho h=>a0n a0b (.tmp 7) rfl ((ho 7 (by decide)).trans rfl) (hS.s (q7,nn) (by simp)) rfl (h u (Kept.refl _ _))⟩
   ·refine⟨⟨_,rfl⟩,fun a' u K0 R hS hr ho h=>?_⟩
    refine a0m rfl a3d (vs:=#[el nn,.int .i64 (2:Nat)]) ?_ (c2.out u) h
    have h0:=hr 0 (el nn) 24 _ rfl rfl rfl ⟨⟨0,.data⟩,by simp,rfl,rfl⟩
    simp [Act.eval]at h0 ⊢
    exact h0
   ·exact⟨⟨_,rfl⟩,fun a' u K0 R hS hr ho h=>a0n a0b (.tmp 6) rfl ((ho 6 (by decide)).trans rfl) (hS.s (q6,W) (by simp)) rfl (h u (Kept.refl _ _))⟩
   ·refine⟨⟨_,rfl⟩,fun a' u K0 R hS hr ho h=>?_⟩
    refine a0m rfl b2a (vs:=#[el W]) ?_ (cs.out u) h
    have h0:=hr 2 (el W) 26 _ rfl rfl rfl ⟨⟨2,.data⟩,by simp,rfl,rfl⟩
    simp [Act.eval]at h0 ⊢
    exact h0
   ·refine⟨⟨_,rfl⟩,fun a' u K0 R hS hr ho h=>?_⟩
    refine a0m rfl a1d (vs:=#[el n2,el sw]) ?_ (ct.out u) h
    have h0:=hr 1 (el n2) 25 _ rfl rfl rfl ⟨⟨1,.data⟩,by simp,rfl,rfl⟩
    have h1:=hr 3 (el sw) 27 _ rfl rfl rfl ⟨⟨3,.data⟩,by simp,rfl,rfl⟩
    simp [Act.eval]at h0 h1 ⊢
    exact⟨h0,h1⟩
   ·exact⟨⟨_,rfl⟩,rfl,a1b⟩
   ·exact⟨rfl,⟨⟨5,.data⟩,by simp,rfl,rfl⟩,⟨⟨4,.data⟩,by simp,rfl,rfl⟩,_,_,_,_,_,_,_,_,rfl,rfl,rfl,rfl,rfl,rfl,rfl,a0b,rfl,rfl,a0u _⟩
  intro γ r5 hS hγ hne hput
  have hg:=hγ 5 _ _ rfl
  have hl:=Nat.le_trans H.out.k.size hg
  have b:=hput 6 5 4 _ _ _ rfl rfl
  have n69:=(H.out.s (q6,W) (by simp)).lt
  generalize e7:γ 5=q9 at *
  simp [a1a,VK,List.range,List.range.loop,Act.put,e7]
  have N:=hjd (show q6≠q9∧w3.heap.size≤q9 from⟨by omega,hl⟩)
  have H:=hjd (show RtM w3 q6 q9 W X0 r5 from⟨hS.s (q6,W) (by simp),b,hS.k⟩)
  clear b hl hput hne hγ hS e7 hg n69
  go_wp2_with fail
  cases t0 with
  | true=>
    refine Txt.a1n [0,1,4,6] (RtM w3 q6 q9 W X0) [[_,_,_],[_],[_,_],[_]] (by kernel_rfl) (by kernel_rfl) rfl (H.out.kept (Kept.refl [] _).drew) (Txt.a0g ?_)
    have H:=hjd (H.out.kept (Kept.refl [] _).drew)
    go_wp2_with (first
     | (with_reducible refine a0d (o:=⟨some 29,_,_,_,_,_⟩) a0b rfl (.tmp 9) rfl rfl H.out.x rfl ?_)
     | (with_reducible refine a0d (o:=⟨some 30,_,_,_,_,_⟩) a0b rfl (.tmp 9) rfl rfl H.out.x rfl ?_)
     | (go_at_call 72;refine(cq.out _).mono ?_;rintro e da ⟨rfl,kk⟩;have H:=hjd (H.out.kept kk);clear kk))
    refine⟨rfl,H.out,Txt.a0g ?_⟩
    go_wp2_with (go_at_call 73;(with_reducible refine(hs0.out _).mono ?_);rintro e db ⟨rfl,kk⟩;have H:=hjd (H.out.kept kk);clear kk)
    refine⟨rfl,H.out,Txt.a0g ?_⟩
    go_wp2_with (first
     | (with_reducible refine a0d (o:=⟨some 33,_,_,_,_,_⟩) a0b rfl (.tmp 6) rfl rfl H.out.w rfl ?_)
     | (go_at_call 73;refine(hw0.out _).mono ?_;rintro e dc ⟨rfl,kk⟩;have H:=hjd (H.out.kept kk);clear kk))
    refine⟨rfl,H.out,Txt.a0g ?_⟩
    go_wp2_with fail
    refine⟨rfl,H.out,Txt.a1i ⟨⟨by kernel_rfl,?_⟩,?_⟩⟩
    ·intro j hj o ho _
     have hj2:j=0∨j=1∨j=4∨j=6:=by simpa using hj
     rcases hj2 with rfl | rfl | rfl | rfl <;> cases ho
     ·exact⟨29,rfl,fun u hu=>a1e a0b (.tmp 9) rfl rfl hu.x rfl⟩
     ·exact⟨30,rfl,fun u hu=>a1e a0b (.tmp 9) rfl rfl hu.x rfl⟩
     ·exact⟨33,rfl,fun u hu=>a1e a0b (.tmp 6) rfl rfl hu.w rfl⟩
     ·exact⟨35,rfl,fun u _=>(a3j a2k Try.underlying5 (by kernel_rfl) (by kernel_rfl) (.tmp 32) (.tmp 34) rfl (xs:=le s0 32) (ys:=le w0 32) rfl rfl (a0y _ _) (a0y _ _)).trans (by rw [qq0.out];rfl)⟩
    have H:=hjd (show RtM w3 q6 q9 W X1 _ from(show X1=X0 from hxx.out)▸H.out)
    go_wp2_with fail
    cases t1 with
    | false=>
      refine Txt.a1n [0,1,4,6] (RtM w3 q6 q9 W X1) [[_,_,_],[_],[_,_],[_]] (by kernel_rfl) (by kernel_rfl) rfl (H.out.kept (Kept.refl [] _).drew) (Txt.a0g ?_)
      have H:=hjd (H.out.kept (Kept.refl [] _).drew)
      go_wp2_with (first
       | (with_reducible refine a0d (o:=⟨some 39,_,_,_,_,_⟩) a0b rfl (.tmp 9) rfl rfl H.out.x rfl ?_)
       | (with_reducible refine a0d (o:=⟨some 40,_,_,_,_,_⟩) a0b rfl (.tmp 9) rfl rfl H.out.x rfl ?_)
       | (go_at_call 72;refine(cq1.out _).mono ?_;rintro e fa ⟨rfl,kk⟩;have H:=hjd (H.out.kept kk);clear kk))
      refine⟨rfl,H.out,Txt.a0g ?_⟩
      go_wp2_with (go_at_call 73;(with_reducible refine(hs1.out _).mono ?_);rintro e fb ⟨rfl,kk⟩;have H:=hjd (H.out.kept kk);clear kk)
      refine⟨rfl,H.out,Txt.a0g ?_⟩
      go_wp2_with (first
       | (with_reducible refine a0d (o:=⟨some 43,_,_,_,_,_⟩) a0b rfl (.tmp 6) rfl rfl H.out.w rfl ?_)
       | (go_at_call 73;refine(hw0.out _).mono ?_;rintro e fc ⟨rfl,kk⟩;have H:=hjd (H.out.kept kk);clear kk))
      refine⟨rfl,H.out,Txt.a0g ?_⟩
      go_wp2_with fail
      refine⟨rfl,H.out,Txt.a1i ⟨⟨by kernel_rfl,?_⟩,?_⟩⟩
      ·intro j hj o ho _
       have hj2:j=0∨j=1∨j=4∨j=6:=by simpa using hj
       rcases hj2 with rfl | rfl | rfl | rfl <;> cases ho
       ·exact⟨39,rfl,fun u hu=>a1e a0b (.tmp 9) rfl rfl hu.x rfl⟩
       ·exact⟨40,rfl,fun u hu=>a1e a0b (.tmp 9) rfl rfl hu.x rfl⟩
       ·exact⟨43,rfl,fun u hu=>a1e a0b (.tmp 6) rfl rfl hu.w rfl⟩
       ·exact⟨45,rfl,fun u _=>(a3j a2k Try.underlying5 (by kernel_rfl) (by kernel_rfl) (.tmp 42) (.tmp 44) rfl (xs:=le s1 32) (ys:=le w0 32) rfl rfl (a0y _ _) (a0y _ _)).trans (by rw [qq1.out];rfl)⟩
      go_wp2_with (first
       | (with_reducible refine a1j (o:=⟨some 46,_,_,_,_,_⟩) rfl rfl a8e ?_)
       | ((with_reducible refine a0c (o:=⟨none,.store 83 (.tmp 4) (.tmp 46),_,_,_,_⟩) a0b rfl (.tmp 4) (.tmp 46) rfl rfl rfl (B4.out.kept H.out.k (by simp)) rfl rfl (a0u _) ?_);intro v4 b4 k4))
      exact a1z a0b rfl rfl b4 rfl rfl ⟨rfl,(D.out.2.a0f H.out.k).a0r k4 D.out.1⟩
    | true=>
      refine Txt.a1n [0,1,4,6] (RtM w3 q6 q9 W X1) [[_,_,_],[_],[_,_],[_]] (by kernel_rfl) (by kernel_rfl) rfl (H.out.kept (Kept.refl [] _).drew) (Txt.a0g ?_)
      have H:=hjd (H.out.kept (Kept.refl [] _).drew)
      go_wp2_with (first
       | (with_reducible refine a0d (o:=⟨some 39,_,_,_,_,_⟩) a0b rfl (.tmp 9) rfl rfl H.out.x rfl ?_)
       | (with_reducible refine a0d (o:=⟨some 40,_,_,_,_,_⟩) a0b rfl (.tmp 9) rfl rfl H.out.x rfl ?_)
       | (go_at_call 72;refine(cq1.out _).mono ?_;rintro e fa ⟨rfl,kk⟩;have H:=hjd (H.out.kept kk);clear kk))
      refine⟨rfl,H.out,Txt.a0g ?_⟩
      go_wp2_with (go_at_call 73;(with_reducible refine(hs1.out _).mono ?_);rintro e fb ⟨rfl,kk⟩;have H:=hjd (H.out.kept kk);clear kk)
      refine⟨rfl,H.out,Txt.a0g ?_⟩
      go_wp2_with (first
       | (with_reducible refine a0d (o:=⟨some 43,_,_,_,_,_⟩) a0b rfl (.tmp 6) rfl rfl H.out.w rfl ?_)
       | (go_at_call 73;refine(hw0.out _).mono ?_;rintro e fc ⟨rfl,kk⟩;have H:=hjd (H.out.kept kk);clear kk))
      refine⟨rfl,H.out,Txt.a0g ?_⟩
      go_wp2_with fail
      refine⟨rfl,H.out,Txt.a1i ⟨⟨by kernel_rfl,?_⟩,?_⟩⟩
      ·intro j hj o ho _
       have hj2:j=0∨j=1∨j=4∨j=6:=by simpa using hj
       rcases hj2 with rfl | rfl | rfl | rfl <;> cases ho
       ·exact⟨39,rfl,fun u hu=>a1e a0b (.tmp 9) rfl rfl hu.x rfl⟩
       ·exact⟨40,rfl,fun u hu=>a1e a0b (.tmp 9) rfl rfl hu.x rfl⟩
       ·exact⟨43,rfl,fun u hu=>a1e a0b (.tmp 6) rfl rfl hu.w rfl⟩
       ·exact⟨45,rfl,fun u _=>(a3j a2k Try.underlying5 (by kernel_rfl) (by kernel_rfl) (.tmp 42) (.tmp 44) rfl (xs:=le s1 32) (ys:=le w0 32) rfl rfl (a0y _ _) (a0y _ _)).trans (by rw [qq1.out];rfl)⟩
      cases od with
      | false=>
        go_wp2_with (first
         | (with_reducible refine a0d (o:=⟨some 47,_,_,_,_,_⟩) a0b rfl (.tmp 9) rfl rfl H.out.x rfl ?_)
         | (go_at_call 74;refine(cod.out _).mono ?_;rintro e fd ⟨rfl,kk⟩;have H:=hjd (H.out.kept kk);clear kk)
         | (with_reducible refine a0d (o:=⟨some 52,_,_,_,_,_⟩) a0b rfl (.tmp 9) rfl rfl H.out.x rfl ?_)
         | ((with_reducible refine a0c (o:=⟨none,.store 83 (.tmp 4) (.tmp 52),_,_,_,_⟩) a0b rfl (.tmp 4) (.tmp 52) rfl rfl rfl (B4.out.kept H.out.k (by simp)) rfl rfl (a0u _) ?_);intro v4 b4 k4))
        exact a1z a0b rfl rfl b4 rfl rfl ⟨rfl,(D.out.2.a0f H.out.k).a0r k4 D.out.1⟩
      | true=>
        go_wp2_with (first
         | (with_reducible refine a0d (o:=⟨some 47,_,_,_,_,_⟩) a0b rfl (.tmp 9) rfl rfl H.out.x rfl ?_)
         | (go_at_call 74;refine(cod.out _).mono ?_;rintro e fd ⟨rfl,kk⟩;have H:=hjd (H.out.kept kk);clear kk)
         | (with_reducible refine a1j (o:=⟨some 49,_,_,_,_,_⟩) rfl rfl a8e ?_)
         | (with_reducible refine a0d (o:=⟨some 50,_,_,_,_,_⟩) a0b rfl (.tmp 9) rfl rfl H.out.x rfl ?_)
         | (go_at_call 79;refine(csu.out _).mono ?_;rintro e fe ⟨rfl,kk⟩;have H:=hjd (H.out.kept kk);clear kk)
         | ((with_reducible refine a0c (o:=⟨none,.store 83 (.tmp 9) (.tmp 51),_,_,_,_⟩) a0b rfl (.tmp 9) (.tmp 51) rfl rfl rfl H.out.x rfl rfl (a0u _) ?_);intro v9 b9 k9;have H:=hjd (H.out.put N.out b9 k9);clear b9 k9)
         | (with_reducible refine a0d (o:=⟨some 52,_,_,_,_,_⟩) a0b rfl (.tmp 9) rfl rfl H.out.x rfl ?_)
         | ((with_reducible refine a0c (o:=⟨none,.store 83 (.tmp 4) (.tmp 52),_,_,_,_⟩) a0b rfl (.tmp 4) (.tmp 52) rfl rfl rfl (B4.out.kept H.out.k (by simp)) rfl rfl (a0u _) ?_);intro v4 b4 k4))
        exact a1z a0b rfl rfl b4 rfl rfl ⟨rfl,(D.out.2.a0f H.out.k).a0r k4 D.out.1⟩
  | false=>
    refine Txt.a1n [0,1,4,6] (RtM w3 q6 q9 W X0) [[_,_,_],[_],[_,_],[_]] (by kernel_rfl) (by kernel_rfl) rfl (H.out.kept (Kept.refl [] _).drew) (Txt.a0g ?_)
    have H:=hjd (H.out.kept (Kept.refl [] _).drew)
    go_wp2_with (first
     | (with_reducible refine a0d (o:=⟨some 29,_,_,_,_,_⟩) a0b rfl (.tmp 9) rfl rfl H.out.x rfl ?_)
     | (with_reducible refine a0d (o:=⟨some 30,_,_,_,_,_⟩) a0b rfl (.tmp 9) rfl rfl H.out.x rfl ?_)
     | (go_at_call 72;refine(cq.out _).mono ?_;rintro e da ⟨rfl,kk⟩;have H:=hjd (H.out.kept kk);clear kk))
    refine⟨rfl,H.out,Txt.a0g ?_⟩
    go_wp2_with (go_at_call 73;(with_reducible refine(hs0.out _).mono ?_);rintro e db ⟨rfl,kk⟩;have H:=hjd (H.out.kept kk);clear kk)
    refine⟨rfl,H.out,Txt.a0g ?_⟩
    go_wp2_with (first
     | (with_reducible refine a0d (o:=⟨some 33,_,_,_,_,_⟩) a0b rfl (.tmp 6) rfl rfl H.out.w rfl ?_)
     | (go_at_call 73;refine(hw0.out _).mono ?_;rintro e dc ⟨rfl,kk⟩;have H:=hjd (H.out.kept kk);clear kk))
    refine⟨rfl,H.out,Txt.a0g ?_⟩
    go_wp2_with fail
    refine⟨rfl,H.out,Txt.a1i ⟨⟨by kernel_rfl,?_⟩,?_⟩⟩
    ·intro j hj o ho _
     have hj2:j=0∨j=1∨j=4∨j=6:=by simpa using hj
     rcases hj2 with rfl | rfl | rfl | rfl <;> cases ho
     ·exact⟨29,rfl,fun u hu=>a1e a0b (.tmp 9) rfl rfl hu.x rfl⟩
     ·exact⟨30,rfl,fun u hu=>a1e a0b (.tmp 9) rfl rfl hu.x rfl⟩
     ·exact⟨33,rfl,fun u hu=>a1e a0b (.tmp 6) rfl rfl hu.w rfl⟩
     ·exact⟨35,rfl,fun u _=>(a3j a2k Try.underlying5 (by kernel_rfl) (by kernel_rfl) (.tmp 32) (.tmp 34) rfl (xs:=le s0 32) (ys:=le w0 32) rfl rfl (a0y _ _) (a0y _ _)).trans (by rw [qq0.out];rfl)⟩
    go_wp2_with fail
    refine a6p (by kernel_rfl) [el X0,el m1F,el XM] (RtM w3 q6 q9 W X0) (by kernel_rfl) rfl rfl (by kernel_rfl) (H.out.kept (Kept.refl [] _).drew) (fun u u' h hk=>h.kept hk) ?_ ?_
    ·refine⟨?_,?_,?_,trivial⟩
     ·exact fun a' u K0 R hS hr ho h=>a0n a0b (.tmp 9) rfl ((ho 9 (by decide)).trans rfl) hS.x rfl (h u (Kept.refl _ _))
     ·refine fun a' u K0 R hS hr ho h=>?_
      exact a0m rfl d4b (vs:=#[]) (by simp) (c1.out u) h
     ·refine fun a' u K0 R hS hr ho h=>?_
      refine a0m rfl a1d (vs:=#[el X0,el m1F]) ?_ (cm1.out u) h
      have h0:=hr 0 (el X0) 36 _ rfl rfl rfl ⟨⟨0,.data⟩,by simp,rfl,rfl⟩
      have h1:=hr 1 (el m1F) 37 _ rfl rfl rfl ⟨⟨1,.data⟩,by simp,rfl,rfl⟩
      simp [Act.eval]at h0 h1 ⊢
      exact⟨h0,h1⟩
    intro u7 hS7
    have H:=hjd (show RtM w3 q6 q9 W X1 (u7.setRow q9 (uv (fam 5 XM)).toArray)from(show X1=XM from hxx.out)▸hS7.put N.out (hS7.x.a5a _) ((Kept.refl [q9] u7).setRow (.inl (by simp)) _))
    refine a5b a0b (.tmp 9) (.tmp 38) rfl rfl rfl hS7.x rfl rfl (a0u _) ?_
    simp [a1a,List.range,List.range.loop,Act.put]
    generalize u7.setRow q9 (uv (fam 5 XM)).toArray=u8 at *
    clear hS7
    go_wp2_with fail
    cases t1 with
    | false=>
      refine Txt.a1n [0,1,4,6] (RtM w3 q6 q9 W X1) [[_,_,_],[_],[_,_],[_]] (by kernel_rfl) (by kernel_rfl) rfl (H.out.kept (Kept.refl [] _).drew) (Txt.a0g ?_)
      have H:=hjd (H.out.kept (Kept.refl [] _).drew)
      go_wp2_with (first
       | (with_reducible refine a0d (o:=⟨some 39,_,_,_,_,_⟩) a0b rfl (.tmp 9) rfl rfl H.out.x rfl ?_)
       | (with_reducible refine a0d (o:=⟨some 40,_,_,_,_,_⟩) a0b rfl (.tmp 9) rfl rfl H.out.x rfl ?_)
       | (go_at_call 72;refine(cq1.out _).mono ?_;rintro e fa ⟨rfl,kk⟩;have H:=hjd (H.out.kept kk);clear kk))
      refine⟨rfl,H.out,Txt.a0g ?_⟩
      go_wp2_with (go_at_call 73;(with_reducible refine(hs1.out _).mono ?_);rintro e fb ⟨rfl,kk⟩;have H:=hjd (H.out.kept kk);clear kk)
      refine⟨rfl,H.out,Txt.a0g ?_⟩
      go_wp2_with (first
       | (with_reducible refine a0d (o:=⟨some 43,_,_,_,_,_⟩) a0b rfl (.tmp 6) rfl rfl H.out.w rfl ?_)
       | (go_at_call 73;refine(hw0.out _).mono ?_;rintro e fc ⟨rfl,kk⟩;have H:=hjd (H.out.kept kk);clear kk))
      refine⟨rfl,H.out,Txt.a0g ?_⟩
      go_wp2_with fail
      refine⟨rfl,H.out,Txt.a1i ⟨⟨by kernel_rfl,?_⟩,?_⟩⟩
      ·intro j hj o ho _
       have hj2:j=0∨j=1∨j=4∨j=6:=by simpa using hj
       rcases hj2 with rfl | rfl | rfl | rfl <;> cases ho
       ·exact⟨39,rfl,fun u hu=>a1e a0b (.tmp 9) rfl rfl hu.x rfl⟩
       ·exact⟨40,rfl,fun u hu=>a1e a0b (.tmp 9) rfl rfl hu.x rfl⟩
       ·exact⟨43,rfl,fun u hu=>a1e a0b (.tmp 6) rfl rfl hu.w rfl⟩
       ·exact⟨45,rfl,fun u _=>(a3j a2k Try.underlying5 (by kernel_rfl) (by kernel_rfl) (.tmp 42) (.tmp 44) rfl (xs:=le s1 32) (ys:=le w0 32) rfl rfl (a0y _ _) (a0y _ _)).trans (by rw [qq1.out];rfl)⟩
      go_wp2_with (first
       | (with_reducible refine a1j (o:=⟨some 46,_,_,_,_,_⟩) rfl rfl a8e ?_)
       | ((with_reducible refine a0c (o:=⟨none,.store 83 (.tmp 4) (.tmp 46),_,_,_,_⟩) a0b rfl (.tmp 4) (.tmp 46) rfl rfl rfl (B4.out.kept H.out.k (by simp)) rfl rfl (a0u _) ?_);intro v4 b4 k4))
      exact a1z a0b rfl rfl b4 rfl rfl ⟨rfl,(D.out.2.a0f H.out.k).a0r k4 D.out.1⟩
    | true=>
      refine Txt.a1n [0,1,4,6] (RtM w3 q6 q9 W X1) [[_,_,_],[_],[_,_],[_]] (by kernel_rfl) (by kernel_rfl) rfl (H.out.kept (Kept.refl [] _).drew) (Txt.a0g ?_)
      have H:=hjd (H.out.kept (Kept.refl [] _).drew)
      go_wp2_with (first
       | (with_reducible refine a0d (o:=⟨some 39,_,_,_,_,_⟩) a0b rfl (.tmp 9) rfl rfl H.out.x rfl ?_)
       | (with_reducible refine a0d (o:=⟨some 40,_,_,_,_,_⟩) a0b rfl (.tmp 9) rfl rfl H.out.x rfl ?_)
       | (go_at_call 72;refine(cq1.out _).mono ?_;rintro e fa ⟨rfl,kk⟩;have H:=hjd (H.out.kept kk);clear kk))
      refine⟨rfl,H.out,Txt.a0g ?_⟩
      go_wp2_with (go_at_call 73;(with_reducible refine(hs1.out _).mono ?_);rintro e fb ⟨rfl,kk⟩;have H:=hjd (H.out.kept kk);clear kk)
      refine⟨rfl,H.out,Txt.a0g ?_⟩
      go_wp2_with (first
       | (with_reducible refine a0d (o:=⟨some 43,_,_,_,_,_⟩) a0b rfl (.tmp 6) rfl rfl H.out.w rfl ?_)
       | (go_at_call 73;refine(hw0.out _).mono ?_;rintro e fc ⟨rfl,kk⟩;have H:=hjd (H.out.kept kk);clear kk))
      refine⟨rfl,H.out,Txt.a0g ?_⟩
      go_wp2_with fail
      refine⟨rfl,H.out,Txt.a1i ⟨⟨by kernel_rfl,?_⟩,?_⟩⟩
      ·intro j hj o ho _
       have hj2:j=0∨j=1∨j=4∨j=6:=by simpa using hj
       rcases hj2 with rfl | rfl | rfl | rfl <;> cases ho
       ·exact⟨39,rfl,fun u hu=>a1e a0b (.tmp 9) rfl rfl hu.x rfl⟩
       ·exact⟨40,rfl,fun u hu=>a1e a0b (.tmp 9) rfl rfl hu.x rfl⟩
       ·exact⟨43,rfl,fun u hu=>a1e a0b (.tmp 6) rfl rfl hu.w rfl⟩
       ·exact⟨45,rfl,fun u _=>(a3j a2k Try.underlying5 (by kernel_rfl) (by kernel_rfl) (.tmp 42) (.tmp 44) rfl (xs:=le s1 32) (ys:=le w0 32) rfl rfl (a0y _ _) (a0y _ _)).trans (by rw [qq1.out];rfl)⟩
      cases od with
      | false=>
        go_wp2_with (first
         | (with_reducible refine a0d (o:=⟨some 47,_,_,_,_,_⟩) a0b rfl (.tmp 9) rfl rfl H.out.x rfl ?_)
         | (go_at_call 74;refine(cod.out _).mono ?_;rintro e fd ⟨rfl,kk⟩;have H:=hjd (H.out.kept kk);clear kk)
         | (with_reducible refine a0d (o:=⟨some 52,_,_,_,_,_⟩) a0b rfl (.tmp 9) rfl rfl H.out.x rfl ?_)
         | ((with_reducible refine a0c (o:=⟨none,.store 83 (.tmp 4) (.tmp 52),_,_,_,_⟩) a0b rfl (.tmp 4) (.tmp 52) rfl rfl rfl (B4.out.kept H.out.k (by simp)) rfl rfl (a0u _) ?_);intro v4 b4 k4))
        exact a1z a0b rfl rfl b4 rfl rfl ⟨rfl,(D.out.2.a0f H.out.k).a0r k4 D.out.1⟩
      | true=>
        go_wp2_with (first
         | (with_reducible refine a0d (o:=⟨some 47,_,_,_,_,_⟩) a0b rfl (.tmp 9) rfl rfl H.out.x rfl ?_)
         | (go_at_call 74;refine(cod.out _).mono ?_;rintro e fd ⟨rfl,kk⟩;have H:=hjd (H.out.kept kk);clear kk)
         | (with_reducible refine a1j (o:=⟨some 49,_,_,_,_,_⟩) rfl rfl a8e ?_)
         | (with_reducible refine a0d (o:=⟨some 50,_,_,_,_,_⟩) a0b rfl (.tmp 9) rfl rfl H.out.x rfl ?_)
         | (go_at_call 79;refine(csu.out _).mono ?_;rintro e fe ⟨rfl,kk⟩;have H:=hjd (H.out.kept kk);clear kk)
         | ((with_reducible refine a0c (o:=⟨none,.store 83 (.tmp 9) (.tmp 51),_,_,_,_⟩) a0b rfl (.tmp 9) (.tmp 51) rfl rfl rfl H.out.x rfl rfl (a0u _) ?_);intro v9 b9 k9;have H:=hjd (H.out.put N.out b9 k9);clear b9 k9)
         | (with_reducible refine a0d (o:=⟨some 52,_,_,_,_,_⟩) a0b rfl (.tmp 9) rfl rfl H.out.x rfl ?_)
         | ((with_reducible refine a0c (o:=⟨none,.store 83 (.tmp 4) (.tmp 52),_,_,_,_⟩) a0b rfl (.tmp 4) (.tmp 52) rfl rfl rfl (B4.out.kept H.out.k (by simp)) rfl rfl (a0u _) ?_);intro v4 b4 k4))
        exact a1z a0b rfl rfl b4 rfl rfl ⟨rfl,(D.out.2.a0f H.out.k).a0r k4 D.out.1⟩
end Go.Proofs.Ytdbngnlpafcogaa
namespace Go.Proofs.Ytdbngnlpafcogaa
open Go.RowKit Go.Mem Go.Txt
theorem Rep.small(v:Nat)(h:v < 18446744073709551616):Rep (smL v) v:=by
 refine⟨fun i _=>?_,by rw [c0q]⟩
 unfold smL
 split
 ·omega
 ·split <;> omega
def wM(u v:Nat):Nat:=mlM u (b7h v)
def x1M(u v:Nat):Nat:=if mlM (c2m (wM u v)) (c2m (wM u v)) % PP=wM u v % PP then c2m (wM u v)else mlM (c2m (wM u v)) M1
def okM(u v:Nat):Bool:=decide (v % PP≠0) && decide (mlM (x1M u v) (x1M u v) % PP=wM u v % PP)
def e0q(x:Nat):Nat:=PP - x % PP
def rtM(u v:Nat):Nat:=if x1M u v % PP % 2=1 then e0q (x1M u v)else x1M u v
theorem Rep.w{U V:Nat→Nat}{u v:Nat}(hu:Rep U u)(hv:Rep V v):Rep (rtW U V) (wM u v):=hu.ml hv.inv
theorem Rep.x1{U V:Nat→Nat}{u v:Nat}(hu:Rep U u)(hv:Rep V v):Rep (rtX U V) (x1M u v):=by
 have hw:=hu.w hv
 have hs:=(hw.try).ml (hw.try)
 have hm:=(hw.try).ml rep_m1
 unfold rtX x1M
 rw [hs.val,hw.val]
 split
 ·exact hw.try
 ·exact hm
theorem Rep.ok{U V:Nat→Nat}{u v:Nat}(hu:Rep U u)(hv:Rep V v):rtB U V=okM u v:=by
 have hw:=hu.w hv
 have hx:=hu.x1 hv
 unfold rtB okM
 rw [hv.val,hw.val,(hx.ml hx).val]
theorem Rep.neg{F:Nat→Nat}{x:Nat}(h:Rep F x):Rep (a5e (b0t a0j F)) (e0q x):=by
 refine Rep.sub (x:=0) ⟨a7h,by unfold fv a0j;simp⟩ h ?_
 unfold e0q
 have hp:=a3i
 have hm:=Nat.mod_lt x hp
 have hd:=Nat.div_add_mod x PP
 rw [show PP - x % PP + x=PP * (1 + x / PP)from by rw [Nat.mul_add];omega,Nat.mul_mod_right,Nat.zero_mod]
theorem Rep.rt{U V:Nat→Nat}{u v:Nat}(hu:Rep U u)(hv:Rep V v)(hok:okM u v=true):Rep (rtF U V) (rtM u v):=by
 have hx:=hu.x1 hv
 unfold rtF rtM
 rw [hu.ok hv,hok,if_pos rfl,hx.val]
 split
 ·exact hx.neg
 ·exact hx
end Go.Proofs.Ytdbngnlpafcogaa
namespace Go.Proofs.Ytdbngnlpafcogaa
open Go.RowKit Go.Mem Go.Txt
theorem c2j(V b k:Nat)(hV:V < 2 ^ (8 * k))(hb:b < 256) :
 wrd V (k / 8) < 2 ^ (8 * (k % 8))∧b * 2 ^ (8 * (k % 8)) < 18446744073709551616∧wrd (V + b * 2 ^ (8 * k)) (k / 8)=wrd V (k / 8) + b * 2 ^ (8 * (k % 8)):=by
 have e:8 * k=64 * (k / 8) + 8 * (k % 8):=by omega
 unfold wrd
 rw [e,Nat.pow_add]at hV ⊢
 have hd:V / 2 ^ (64 * (k / 8)) < 2 ^ (8 * (k % 8)):=by
  rw [Nat.div_lt_iff_lt_mul (Nat.two_pow_pos _),Nat.mul_comm];exact hV
 have h1:(V + b * (2 ^ (64 * (k / 8)) * 2 ^ (8 * (k % 8)))) / 2 ^ (64 * (k / 8))=V / 2 ^ (64 * (k / 8)) + b * 2 ^ (8 * (k % 8)):=by
  rw [Nat.mul_left_comm,Nat.add_mul_div_left _ _ (Nat.two_pow_pos _)]
 rw [h1]
 generalize V / 2 ^ (64 * (k / 8))=U at *
 have hr:k % 8=0∨k % 8=1∨k % 8=2∨k % 8=3∨k % 8=4∨k % 8=5∨k % 8=6∨k % 8=7:=by omega
 rcases hr with h | h | h | h | h | h | h | h <;> rw [h]at hd ⊢ <;> simp only [Nat.reduceMul,Nat.reducePow]at hd ⊢ <;> omega
theorem b8a(V b k i:Nat)(hV:V < 2 ^ (8 * k))(hb:b < 256)(hi:i≠k / 8):wrd (V + b * 2 ^ (8 * k)) i=wrd V i:=by
 unfold wrd
 rcases Nat.lt_or_ge i (k / 8)with h | h
 ·have e:8 * k=64 * i + (64 + (8 * k - 64 * i - 64)):=by omega
  rw [e,Nat.pow_add,Nat.mul_left_comm,Nat.add_mul_div_left _ _ (Nat.two_pow_pos _),Nat.pow_add,Nat.mul_left_comm]
  exact Nat.add_mul_mod_self_left _ _ _
 ·have h2:V + b * 2 ^ (8 * k) < 2 ^ (64 * i):=by
   have:2 ^ (8 * k + 8)≤2 ^ (64 * i):=Nat.pow_le_pow_right (by omega) (by omega)
   rw [Nat.pow_add]at this
   have h3:b * 2 ^ (8 * k)≤255 * 2 ^ (8 * k):=Nat.mul_le_mul_right _ (by omega)
   omega
  rw [Nat.div_eq_of_lt h2,Nat.div_eq_of_lt (by omega)]
theorem d2r(a b s:Nat)(ha:a < 2 ^ s)(hb8:b < 256)(hb:b * 2 ^ s < 18446744073709551616)(hs:2 ^ s≤18446744073709551616):bits .or .u64 (a:Int) (IntKind.u64.wrap (IntKind.u64.wrap (b:Int) * 2 ^ s))=((a + b * 2 ^ s:Nat):Int):=by
 have e0:IntKind.u64.wrap (b:Int)=(b:Int):=by rw [IntKind.wrap_u64];omega
 rw [e0]
 have e1:IntKind.u64.wrap ((b:Int) * 2 ^ s)=((b * 2 ^ s:Nat):Int):=by
  rw [IntKind.wrap_u64]
  have:((b:Int) * 2 ^ s)=((b * 2 ^ s:Nat):Int):=by simp
  rw [this]
  omega
 rw [e1,bits_or_u64_nat _ _ (by omega) hb]
 congr 1
 have:=Nat.two_pow_add_eq_or_of_lt ha b
 rw [Nat.or_comm,Nat.mul_comm b,←this,Nat.add_comm]
theorem e4k{w:World}{g:Nat}{bt:TypeId}(bs:List UInt8)(k:Nat)(hk:k < bs.length)(hl:bs.length=32)(h:Blk w g bt (uv (fam 4 (wrd (leV (bs.take k))))).toArray) :
 Blk (w.setCell ⟨g,k / 8,none⟩ (.int .u64 (wrd (leV (bs.take (k + 1))) (k / 8):Nat))) g bt (uv (fam 4 (wrd (leV (bs.take (k + 1)))))).toArray:=by
 have:=h.e5z (v:=fun z:Nat=>Value.int .u64 (z:Int)) (k / 8) (wrd (leV (bs.take (k + 1))) (k / 8))
 have e:fam 4 (fun j=>if j=k / 8 then wrd (leV (bs.take (k + 1))) (k / 8)else wrd (leV (bs.take k)) j)=fam 4 (wrd (leV (bs.take (k + 1)))):=a6i 4 fun j _=>by
  by_cases hj:j=k / 8
  ·subst hj;rw [if_pos rfl]
  ·rw [if_neg hj,b1v bs k hk,b8a _ _ _ _ (a6g bs k (by omega)) (UInt8.toNat_lt _) hj]
 rwa [e]at this
def nwL(X i:Nat):Nat:=X / 2 ^ (51 * i) % 2251799813685248
theorem d0k(X:Nat):Lim (nwL X):=fun i _=>by
 have:nwL X i < 2251799813685248:=Nat.mod_lt _ (by decide)
 omega
theorem b6k(X:Nat):nwL X 0=X % 2251799813685248∧nwL X 1=X / 2251799813685248 % 2251799813685248∧nwL X 2=X / 5070602400912917605986812821504 % 2251799813685248∧nwL X 3=X / 11417981541647679048466287755595961091061972992 % 2251799813685248∧nwL X 4=X / 25711008708143844408671393477458601640355247900524685364822016 % 2251799813685248:=
 ⟨by rw [nwL];simp,rfl,rfl,rfl,rfl⟩
theorem d2k(X:Nat):fv (nwL X)=X % a3z:=by
 obtain⟨h0,h1,h2,h3,h4⟩:=b6k X
 unfold fv
 rw [h0,h1,h2,h3,h4]
 unfold a3z
 omega
theorem d2c(a c P Q s:Nat)(hP:P=2 ^ s)(hPQ:P * Q=18446744073709551616)(ha:a < P)(h64:P≤18446744073709551616):bits .or .u64 (a:Int) (IntKind.u64.wrap ((c:Int) * (P:Nat)))=((a + P * (c % Q):Nat):Int):=by
 have hq:0 < Q:=Nat.pos_of_ne_zero fun e=>by rw [e]at hPQ;simp at hPQ
 have e:IntKind.u64.wrap ((c:Int) * (P:Nat))=((P * (c % Q):Nat):Int):=by
  rw [←Int.natCast_mul,b4g,←hPQ,Nat.mul_comm c P,Nat.mul_mod_mul_left]
 have hlt:P * (c % Q) < 18446744073709551616:=by
  rw [←hPQ];exact Nat.mul_lt_mul_of_pos_left (Nat.mod_lt _ hq) (by omega)
 rw [e]
 exact d1v a (c % Q) s P hP ha (by omega) hlt
theorem limb0(X:Nat):bits .and .u64 ((wrd X 0:Nat):Int) 2251799813685247=((nwL X 0:Nat):Int):=by
 rw [b6c _ (a5y _ _),(b6k X).1]
 congr 1
 show X / 2 ^ (64 * 0) % 18446744073709551616 % 2251799813685248=_
 simp only [Nat.mul_zero,Nat.pow_zero,Nat.div_one]
 omega
theorem c1g(X:Nat):wrd X 0=X % 18446744073709551616∧wrd X 1=X / 18446744073709551616 % 18446744073709551616∧wrd X 2=X / 340282366920938463463374607431768211456 % 18446744073709551616∧wrd X 3=X / 6277101735386680763835789423207666416102355444464034512896 % 18446744073709551616:=
 ⟨by rw [wrd];simp,rfl,rfl,rfl⟩
theorem limb1(X:Nat):bits .and .u64 (bits .or .u64 (((wrd X 0:Nat):Int) / 2251799813685248) (IntKind.u64.wrap (((wrd X 1:Nat):Int) * 8192))) 2251799813685247=((nwL X 1:Nat):Int):=by
 obtain⟨h0,h1,_,_⟩:=c1g X
 have hlt:=a5y X 0
 rw [show((wrd X 0:Nat):Int) / 2251799813685248=((wrd X 0 / 2251799813685248:Nat):Int)from by omega,
  show(((wrd X 1:Nat):Int) * 8192)=((wrd X 1:Nat):Int) * ((8192:Nat):Int)from rfl,d2c _ _ 8192 2251799813685248 13 rfl rfl (by omega) (by omega),
  b6c _ (by omega),(b6k X).2.1,h0,h1]
 congr 1
 omega
theorem limb2(X:Nat):bits .and .u64 (bits .or .u64 (((wrd X 1:Nat):Int) / 274877906944) (IntKind.u64.wrap (((wrd X 2:Nat):Int) * 67108864))) 2251799813685247=((nwL X 2:Nat):Int):=by
 obtain⟨_,h1,h2,_⟩:=c1g X
 have hlt:=a5y X 1
 rw [show((wrd X 1:Nat):Int) / 274877906944=((wrd X 1 / 274877906944:Nat):Int)from by omega,
  show(((wrd X 2:Nat):Int) * 67108864)=((wrd X 2:Nat):Int) * ((67108864:Nat):Int)from rfl,d2c _ _ 67108864 274877906944 26 rfl rfl (by omega) (by omega),
  b6c _ (by omega),(b6k X).2.2.1,h1,h2]
 congr 1
 omega
theorem limb3(X:Nat):bits .and .u64 (bits .or .u64 (((wrd X 2:Nat):Int) / 33554432) (IntKind.u64.wrap (((wrd X 3:Nat):Int) * 549755813888))) 2251799813685247=((nwL X 3:Nat):Int):=by
 obtain⟨_,_,h2,h3⟩:=c1g X
 have hlt:=a5y X 2
 rw [show((wrd X 2:Nat):Int) / 33554432=((wrd X 2 / 33554432:Nat):Int)from by omega,
  show(((wrd X 3:Nat):Int) * 549755813888)=((wrd X 3:Nat):Int) * ((549755813888:Nat):Int)from rfl,d2c _ _ 549755813888 33554432 39 rfl rfl (by omega) (by omega),
  b6c _ (by omega),(b6k X).2.2.2.1,h2,h3]
 congr 1
 omega
theorem limb4(X:Nat):bits .and .u64 (((wrd X 3:Nat):Int) / 4096) 2251799813685247=((nwL X 4:Nat):Int):=by
 obtain⟨_,_,_,h3⟩:=c1g X
 have hlt:=a5y X 3
 rw [show((wrd X 3:Nat):Int) / 4096=((wrd X 3 / 4096:Nat):Int)from by omega,b6c _ (by omega),(b6k X).2.2.2.2,h3]
 congr 1
 omega
theorem d5j(x y:Nat)(hx:x < 2 ^ (8 * 32))(hy:y < 2 ^ (8 * 32)):(le x 32 == le y 32)=decide (x=y):=e1d hx hy
def e1a(bs:List UInt8):Bool:=decide (leV bs < PP)
def b2g(bs:List UInt8):Nat→Nat:=if e1a bs then nwL (leV bs)else a0j
theorem a3o(bs:List UInt8):Lim (b2g bs):=by
 unfold b2g
 split
 ·exact d0k _
 ·exact a7h
theorem e4d(bs:List UInt8)(h:e1a bs=true):fv (b2g bs)=leV bs:=by
 have hlt:leV bs < PP:=of_decide_eq_true h
 unfold b2g
 rw [h,if_pos rfl,d2k,Nat.mod_eq_of_lt]
 unfold PP at hlt
 unfold a3z
 omega
end Go.Proofs.Ytdbngnlpafcogaa
namespace Go.Mem
open Go.RowKit
theorem a4c{P:Program}{u:World}{a:Act}{o:Oper}{t:TypeId}(x:Operand)(ho:o.op= .load t x)(hs:∀w,(isAgg t).run P w= .ok false w){p:Addr}(hx:a.eval x= .pointer (some p)){v:Value}(hc:u.cell? p=some v) :
 (execOp a.eval o).run P u= .ok (.value v) u:=by
 have h2:(isAgg t).run P u= .ok false u:=hs u
 simp [execOp,ho,hx,Instr.loadAt,Instr.sureAddr,loadVar,h2,hc]
end Go.Mem
namespace Go.Proofs.Ytdbngnlpafcogaa
open Go.RowKit Go.Mem Go.Txt
theorem d0v(w:World):(isAgg 80).run Try.prog w= .ok false w:=by kernel_rfl
structure NewM (w0:World) (g1 g2 g4 g7:Nat) (bs:List UInt8) (X:Nat) (L:Nat→Nat) (u:World):Prop where
 b:Blk u g1 26 (bv bs).toArray
 r:Blk u g2 83 (uv (fam 5 a0j)).toArray
 wd:Blk u g4 97 (uv (fam 4 (wrd X))).toArray
 x:Blk u g7 83 (uv (fam 5 L)).toArray
 k:Kept [] w0 u
theorem NewM.kept{w0:World}{g1 g2 g4 g7:Nat}{bs:List UInt8}{X:Nat}{L:Nat→Nat}{u u':World}(h:NewM w0 g1 g2 g4 g7 bs X L u)(hk:Kept [] u u'):NewM w0 g1 g2 g4 g7 bs X L u':=
 ⟨h.b.kept hk (by simp),h.r.kept hk (by simp),h.wd.kept hk (by simp),h.x.kept hk (by simp),h.k.a0f hk⟩
set_option maxHeartbeats 4000000 in
theorem a6x(bs:List UInt8)(hl:bs.length=32)(w:World) :
 Calls Try.prog 76 #[ab bs] w fun e w'=>e= .returned (.tuple #[el (b2g bs),.bool (e1a bs)])∧Kept [] w w':=by
 have hX:=b5g bs
 rw [hl]at hX
 have hX2:=hjd hX
 have hlh:=hjd hl
 have hbl:(bv bs).length=32:=by simp [hl]
 have hbl2:=hjd hbl
 clear hX hbl
 obtain⟨ok,hok⟩:∃b,b=e1a bs:=⟨_,rfl⟩
 obtain⟨FF,hFF⟩:∃F,F=b2g bs:=⟨_,rfl⟩
 rw [←hok,←hFF]
 have R0:=hjd (And.intro hok hFF)
 clear hok hFF
 go_enter Try.func76,Try.ntmps76
 go_wp2_with (first
  | ((with_reducible refine a0p (o:=⟨some 1,_,_,_,_,_⟩) (v:=ab bs) rfl (.tmp 0) rfl rfl ?_);intro g1 w1 m1)
  | ((with_reducible refine a0h (o:=⟨some 2,_,_,_,_,_⟩) rfl rfl a1b ?_);intro g2 w2 m2)
  | ((with_reducible refine a0h (o:=⟨some 4,_,_,_,_,_⟩) rfl rfl c8d ?_);intro g4 w3 m3)
  | (refine a0x a2k rfl (.tmp 1) rfl rfl ((m1.blk.kept m2.kept (by simp)).kept m3.kept (by simp)) hbl2.out ?_))
 have B1:=hjd ((m1.blk.kept m2.kept (by simp)).kept m3.kept (by simp))
 have B2:=hjd (m2.blk.kept m3.kept (by simp))
 have B4:=hjd (show Blk w3 g4 97 (uv (fam 4 (wrd (leV (bs.take 0))))).toArray from by rw [List.take_zero];exact m3.blk)
 have K:=hjd ((m1.kept.a0f m2.kept).a0f m3.kept)
 have D:=hjd (show w.heap.size≤g2∧w.heap.size≤g4∧g1≠g4∧g2≠g4 from⟨Nat.le_trans m1.kept.size m2.le,Nat.le_trans (m1.kept.a0f m2.kept).size m3.le,m3.ne (m2.kept.lt m1.blk.lt),m3.ne m2.blk.lt⟩)
 clear m1 m2 m3
 go_loopg [9] 32 (fun f i wk=>∃k:Nat,k≤32∧f + k=32∧i= .int .i64 k∧Blk wk g4 97 (uv (fam 4 (wrd (leV (bs.take k))))).toArray∧Kept [g4] w3 wk)
 case atStart=>exact⟨0,Nat.zero_le _,rfl,rfl,B4.out,Kept.refl _ _⟩
 case round=>
  obtain⟨k,hk,hf,rfl,hb,hkw⟩:=hrel
  by_cases hlt:k < 32
  ·have hkl:k < bs.length:=by rw [hl];exact hlt
   have hi:∀W,(Instr.index 26 (ab bs) (.int .i64 k)).run Try.prog W= .ok (.int .u8 ((bs[k].toNat:Nat):Int)) W:=fun W=>
    a6e a2k Try.underlying5 rfl (by kernel_rfl) .i64 k hlt (by simp [bv,a2r,hkl]) W
   have hV:=a6g bs k (by omega)
   obtain⟨n1,n2,n3⟩:=c2j (leV (bs.take k)) bs[k].toNat k hV (UInt8.toNat_lt _)
   have hq:k / 8 < 4:=by omega
   have c1:=Blk.a8r (v:=fun z:Nat=>Value.int .u64 (z:Int)) hb (k / 8) hq
   have hfz:=hb.frozen (k / 8)
   have hor:=d2r (wrd (leV (bs.take k)) (k / 8)) bs[k].toNat (8 * (k % 8)) n1 (UInt8.toNat_lt _) n2 (Nat.pow_le_pow_right (n:=2) (j:=64) (by omega) (by omega))
   rw [←n3,←b1v bs k hkl]at hor
   have hst2:=hjd (e4k bs k hkl hl hb)
   have hk2:=hjd (hkw.setCell (p:=⟨g4,k / 8,none⟩) (.inl (by simp)) (Value.int .u64 (wrd (leV (bs.take (k + 1))) (k / 8):Nat)))
   clear hV n1 n2 n3 hb hkw hl
   go_wp2_with fail
   go_roundg (32 - (k + 1))
   case measure=>omega
   case rel=>exact⟨k + 1,by omega,by omega,by go_num,hst2.out,hk2.out⟩
  ·obtain rfl:k=32:=by omega
   rw [List.take_of_length_le (by omega)]at hb
   have B1:=hjd (B1.out.kept hkw (by have:=D.out.2.2.1;simpa using this))
   have B2:=hjd (B2.out.kept hkw (by have:=D.out.2.2.2;simpa using this))
   have K:=hjd (K.out.a0r hkw D.out.2.1)
   have B4:=hjd hb
   clear hb hkw hlt hk hf
   have hle:=b6r bs
   rw [hl]at hle
   clear hl
   have hv:=d2k (leV bs)
   have ha:HaC (nwL (leV bs)) (leV bs % a3z % PP):=fun W=>by
    have:=a4z (nwL (leV bs)) W (d0k _)
    rwa [hv]at this
   clear hv
   have hQ:∀V,leV bs=V→(le (V % PP) 32 == bs)=decide (V < PP):=fun V e=>by
    rw [←hle,e,d5j _ _ (Nat.lt_of_lt_of_le (Nat.mod_lt _ a3i) (by decide +kernel)) (by rw [←e];exact hX2.out)]
    rw [decide_eq_decide]
    have:=Nat.mod_lt V a3i
    exact⟨fun h=>by omega,fun h=>Nat.mod_eq_of_lt h⟩
   have l0:=limb0 (leV bs)
   have l1:=limb1 (leV bs)
   have l2:=limb2 (leV bs)
   have l3:=limb3 (leV bs)
   have l4:=limb4 (leV bs)
   have c0:=Blk.a8r (v:=fun z:Nat=>Value.int .u64 (z:Int)) B4.out 0 (by omega)
   have c1:=Blk.a8r (v:=fun z:Nat=>Value.int .u64 (z:Int)) B4.out 1 (by omega)
   have c2:=Blk.a8r (v:=fun z:Nat=>Value.int .u64 (z:Int)) B4.out 2 (by omega)
   have c3:=Blk.a8r (v:=fun z:Nat=>Value.int .u64 (z:Int)) B4.out 3 (by omega)
   have hw3:=(c1g (leV bs)).2.2.2
   have b0:=a5y (leV bs) 0
   have b1:=a5y (leV bs) 1
   have b2:=a5y (leV bs) 2
   have b3:=a5y (leV bs) 3
   have hXl:=hX2.out
   obtain⟨V,hVe⟩:∃V,V=leV bs:=⟨_,rfl⟩
   have hQ:=hjd (hQ V hVe.symm)
   have R0:=R0.out
   have R1:=hjd (show ok=decide (V < PP)∧FF=if decide (V < PP)=true then nwL V else a0j from⟨by rw [R0.1,hVe];rfl,by rw [R0.2,hVe];rfl⟩)
   clear R0
   rw [←hVe]at l0 l1 l2 l3 l4 c0 c1 c2 c3 hw3 b0 b1 b2 b3 hXl ha B4
   have hT:Hid ((wrd V 3 / 9223372036854775808=1∧¬V < PP)∨(wrd V 3 / 9223372036854775808=0∧V % a3z=V)):=hjd (by
    clear l0 l1 l2 l3 l4 c0 c1 c2 c3 ha hQ
    rw [hw3]
    unfold PP a3z
    omega)
   clear hw3 hle hXl
   replace hVe:=hjd hVe
   generalize nwL V=L at *
   generalize wrd V 0=x0,wrd V 1=x1,wrd V 2=x2 at c0 c1 c2 l0 l1 l2 l3 b0 b1 b2
   generalize hx3:wrd V 3=x3 at c3 l3 l4 b3 hT
   replace hx3:=hjd hx3
   go_wp2_with (first
    | (with_reducible refine a3t (o:=⟨some 59,_,_,_,_,_⟩) rfl 0 (.tmp 58) rfl rfl (b8n L) ?_)
    | ((with_reducible refine a0h (o:=⟨some 7,_,_,_,_,_⟩) rfl rfl a1b ?_);intro g7 w7 m7)
    | ((with_reducible refine a0c (o:=⟨none,.store 83 (.tmp 7) (.tmp 59),_,_,_,_⟩) a0b rfl (.tmp 7) (.tmp 59) rfl rfl rfl m7.blk rfl rfl (a0u _) ?_);intro v7 b7 k7))
   have H:=hjd (show NewM w g1 g2 g4 g7 bs V L v7 from⟨(B1.out.kept m7.kept (by simp)).kept k7 (by simpa using m7.ne B1.out.lt),(B2.out.kept m7.kept (by simp)).kept k7 (by simpa using m7.ne B2.out.lt),(B4.out.kept m7.kept (by simp)).kept k7 (by simpa using m7.ne B4.out.lt),b7,(K.out.a0f m7.kept).a0r k7 (Nat.le_trans K.out.size m7.le)⟩)
   clear m7 b7 k7 B1 B2 B4 K c0 c1 c2 c3 l0 l1 l2 l3 l4 b0 b1 b2
   rcases hT.out with⟨ht,hn⟩ | ⟨ht,hv⟩
   ·obtain⟨rfl,rfl⟩:ok=false∧FF=a0j:=by
     have:=R1.out
     rw [decide_eq_false hn]at this
     exact⟨this.1,this.2⟩
    have ht2:((x3:Nat):Int) / 9223372036854775808=1:=by omega
    have ha:=hjd ha
    clear ht hn hT R1 hQ
    refine Txt.a1n [1,5,7,8] (NewM w g1 g2 g4 g7 bs V L) [[_,_,_,_,_,_,_],[_,_,_]] (by kernel_rfl) (by kernel_rfl) rfl (H.out.kept (Kept.refl [] _).drew) (Txt.a0g ?_)
    have H:=hjd (H.out.kept (Kept.refl [] v7).drew)
    have cc:=Blk.a8r (v:=fun z:Nat=>Value.int .u64 (z:Int)) H.out.wd 3 (by omega)
    rw [hx3.out]at cc
    go_wp2_with (first
     | (with_reducible refine a0d (o:=⟨some 65,_,_,_,_,_⟩) a0b rfl (.tmp 7) rfl rfl H.out.x rfl ?_)
     | (go_at_call 73;refine(ha.out _).mono ?_;rintro e u6 ⟨rfl,kk⟩;have H:=hjd (H.out.kept kk);clear kk))
    refine⟨rfl,H.out,Txt.a0g ?_⟩
    go_wp2_with (refine a0x a2k rfl (.tmp 1) rfl rfl H.out.b hbl2.out ?_)
    refine⟨rfl,H.out,Txt.a1i ⟨⟨by kernel_rfl,?_⟩,?_⟩⟩
    ·intro j hj o ho hw
     have hj2:j=1∨j=5∨j=7∨j=8:=by simpa using hj
     rcases hj2 with rfl | rfl | rfl | rfl <;> cases ho
     ·exact⟨61,rfl,fun u hu=>a4c (.tmp 60) rfl d0v rfl (by have:=Blk.a8r (v:=fun z:Nat=>Value.int .u64 (z:Int)) hu.wd 3 (by omega);rw [hx3.out]at this;exact this)⟩
     ·exact absurd (hw:Region.wanted _ _=true) (by rw [show Region.wanted _ _=false from by kernel_rfl];simp)
     ·exact absurd (hw:Region.wanted _ _=true) (by rw [show Region.wanted _ _=false from by kernel_rfl];simp)
     ·exact absurd (hw:Region.wanted _ _=true) (by rw [show Region.wanted _ _=false from by kernel_rfl];simp)
    go_wp2_with (first
     | (with_reducible refine a1j (o:=⟨some 70,_,_,_,_,_⟩) rfl rfl a8e ?_)
     | ((with_reducible refine a0c (o:=⟨none,.store 83 (.tmp 2) (.tmp 70),_,_,_,_⟩) a0b rfl (.tmp 2) (.tmp 70) rfl rfl rfl H.out.r rfl rfl (a0u _) ?_);intro v2 b2 k2))
    exact a1z a0b rfl rfl b2 rfl rfl ⟨rfl,H.out.k.a0r k2 D.out.1⟩
   ·have ht2:((x3:Nat):Int) / 9223372036854775808=0:=by omega
    rw [hv]at ha
    have ha:=hjd ha
    by_cases hp:V < PP
    ·obtain⟨rfl,rfl⟩:ok=true∧FF=L:=by
      have:=R1.out
      rw [decide_eq_true hp]at this
      exact⟨this.1,this.2⟩
     have hq:=hQ.out
     rw [decide_eq_true hp]at hq
     have eqr:=fun W=>a3k a2k Try.underlying5 (by kernel_rfl) (le (V % PP) 32) bs (a0y _ _) hlh.out W
     rw [hq]at eqr
     replace hq:=hjd hq
     clear ht hv hp hT R1 hQ
     refine Txt.a1n [1,5,7,8] (NewM w g1 g2 g4 g7 bs V FF) [[_,_,_,_,_,_,_],[_,_,_]] (by kernel_rfl) (by kernel_rfl) rfl (H.out.kept (Kept.refl [] _).drew) (Txt.a0g ?_)
     have H:=hjd (H.out.kept (Kept.refl [] v7).drew)
     have cc:=Blk.a8r (v:=fun z:Nat=>Value.int .u64 (z:Int)) H.out.wd 3 (by omega)
     rw [hx3.out]at cc
     go_wp2_with (first
      | (with_reducible refine a0d (o:=⟨some 65,_,_,_,_,_⟩) a0b rfl (.tmp 7) rfl rfl H.out.x rfl ?_)
      | (go_at_call 73;refine(ha.out _).mono ?_;rintro e u6 ⟨rfl,kk⟩;have H:=hjd (H.out.kept kk);clear kk))
     refine⟨rfl,H.out,Txt.a0g ?_⟩
     go_wp2_with (refine a0x a2k rfl (.tmp 1) rfl rfl H.out.b hbl2.out ?_)
     refine⟨rfl,H.out,Txt.a1i ⟨⟨by kernel_rfl,?_⟩,?_⟩⟩
     ·intro j hj o ho hw
      have hj2:j=1∨j=5∨j=7∨j=8:=by simpa using hj
      rcases hj2 with rfl | rfl | rfl | rfl <;> cases ho
      ·exact⟨61,rfl,fun u hu=>a4c (.tmp 60) rfl d0v rfl (by have:=Blk.a8r (v:=fun z:Nat=>Value.int .u64 (z:Int)) hu.wd 3 (by omega);rw [hx3.out]at this;exact this)⟩
      ·exact⟨65,rfl,fun u hu=>a1e a0b (.tmp 7) rfl rfl hu.x rfl⟩
      ·exact⟨67,rfl,fun u hu=>a1e a2k.row (.tmp 1) rfl rfl hu.b hbl2.out⟩
      ·exact⟨68,rfl,fun u _=>(a3j a2k Try.underlying5 (by kernel_rfl) (by kernel_rfl) (.tmp 66) (.tmp 67) rfl (xs:=le (V % PP) 32) (ys:=bs) rfl rfl (a0y _ _) hlh.out).trans (by rw [hq.out];rfl)⟩
     go_wp2_with (first
      | (with_reducible refine a0d (o:=⟨some 71,_,_,_,_,_⟩) a0b rfl (.tmp 7) rfl rfl H.out.x rfl ?_)
      | ((with_reducible refine a0c (o:=⟨none,.store 83 (.tmp 2) (.tmp 71),_,_,_,_⟩) a0b rfl (.tmp 2) (.tmp 71) rfl rfl rfl H.out.r rfl rfl (a0u _) ?_);intro v2 b2 k2))
     exact a1z a0b rfl rfl b2 rfl rfl ⟨rfl,H.out.k.a0r k2 D.out.1⟩
    ·obtain⟨rfl,rfl⟩:ok=false∧FF=a0j:=by
      have:=R1.out
      rw [decide_eq_false hp]at this
      exact⟨this.1,this.2⟩
     have hq:=hQ.out
     rw [decide_eq_false hp]at hq
     have eqr:=fun W=>a3k a2k Try.underlying5 (by kernel_rfl) (le (V % PP) 32) bs (a0y _ _) hlh.out W
     rw [hq]at eqr
     replace hq:=hjd hq
     clear ht hv hp hT R1 hQ
     refine Txt.a1n [1,5,7,8] (NewM w g1 g2 g4 g7 bs V L) [[_,_,_,_,_,_,_],[_,_,_]] (by kernel_rfl) (by kernel_rfl) rfl (H.out.kept (Kept.refl [] _).drew) (Txt.a0g ?_)
     have H:=hjd (H.out.kept (Kept.refl [] v7).drew)
     have cc:=Blk.a8r (v:=fun z:Nat=>Value.int .u64 (z:Int)) H.out.wd 3 (by omega)
     rw [hx3.out]at cc
     go_wp2_with (first
      | (with_reducible refine a0d (o:=⟨some 65,_,_,_,_,_⟩) a0b rfl (.tmp 7) rfl rfl H.out.x rfl ?_)
      | (go_at_call 73;refine(ha.out _).mono ?_;rintro e u6 ⟨rfl,kk⟩;have H:=hjd (H.out.kept kk);clear kk))
     refine⟨rfl,H.out,Txt.a0g ?_⟩
     go_wp2_with (refine a0x a2k rfl (.tmp 1) rfl rfl H.out.b hbl2.out ?_)
     refine⟨rfl,H.out,Txt.a1i ⟨⟨by kernel_rfl,?_⟩,?_⟩⟩
     ·intro j hj o ho hw
      have hj2:j=1∨j=5∨j=7∨j=8:=by simpa using hj
      rcases hj2 with rfl | rfl | rfl | rfl <;> cases ho
      ·exact⟨61,rfl,fun u hu=>a4c (.tmp 60) rfl d0v rfl (by have:=Blk.a8r (v:=fun z:Nat=>Value.int .u64 (z:Int)) hu.wd 3 (by omega);rw [hx3.out]at this;exact this)⟩
      ·exact⟨65,rfl,fun u hu=>a1e a0b (.tmp 7) rfl rfl hu.x rfl⟩
      ·exact⟨67,rfl,fun u hu=>a1e a2k.row (.tmp 1) rfl rfl hu.b hbl2.out⟩
      ·exact⟨68,rfl,fun u _=>(a3j a2k Try.underlying5 (by kernel_rfl) (by kernel_rfl) (.tmp 66) (.tmp 67) rfl (xs:=le (V % PP) 32) (ys:=bs) rfl rfl (a0y _ _) hlh.out).trans (by rw [hq.out];rfl)⟩
     go_wp2_with (first
      | (with_reducible refine a1j (o:=⟨some 70,_,_,_,_,_⟩) rfl rfl a8e ?_)
      | ((with_reducible refine a0c (o:=⟨none,.store 83 (.tmp 2) (.tmp 70),_,_,_,_⟩) a0b rfl (.tmp 2) (.tmp 70) rfl rfl rfl H.out.r rfl rfl (a0u _) ?_);intro v2 b2 k2))
     exact a1z a0b rfl rfl b2 rfl rfl ⟨rfl,H.out.k.a0r k2 D.out.1⟩
end Go.Proofs.Ytdbngnlpafcogaa
namespace Go.Proofs.Ytdbngnlpafcogaa
open Go.RowKit Go.Mem Go.Txt
abbrev SmC(v:Nat)(F:Nat→Nat):Prop:=∀W,Calls Try.prog 77 #[.int .u64 (v:Int)] W fun e w'=>e= .returned (el F)∧Kept [] W w'
abbrev AdC(F G R:Nat→Nat):Prop:=∀W,Calls Try.prog 81 #[el F,el G] W fun e w'=>e= .returned (el R)∧Kept [] W w'
def adF(F G:Nat→Nat):Nat→Nat:=a5e (c7t F G)
def suF(F G:Nat→Nat):Nat→Nat:=a5e (b0t F G)
theorem a0w{F G:Nat→Nat}(h:Lim F)(h2:Lim G):Lim (adF F G):=a9v _ fun i hi=>by have:=h i hi;have:=h2 i hi;unfold c7t;omega
theorem a1h{F G:Nat→Nat}(h:Lim F)(_:Lim G):Lim (suF F G):=a9v _ fun i hi=>by have:=h i hi;have:=h 0 (by omega);unfold b0t c3d;split <;> omega
theorem c7q{F G:Nat→Nat}(h:Lim F)(h2:Lim G):AdC F G (adF F G):=fun W=>d7f F G W h h2
theorem c6z{F G:Nat→Nat}(h:Lim F)(h2:Lim G):SuC F G (suF F G):=fun W=>c5f F G W h h2
theorem b0s{F G:Nat→Nat}(h:Lim F)(h2:Lim G):MlC F G (mlF F G):=a4d F G h h2
structure Pm (w0:World) (L:List (Nat × TypeId × Array Value)) (u:World):Prop where
 s:∀p∈L,Blk u p.1 p.2.1 p.2.2
 k:Kept [] w0 u
theorem Pm.none(w0:World):Pm w0 [] w0:=⟨fun _ h=>absurd h (by simp),Kept.refl _ _⟩
theorem Pm.kept{w0:World}{L:List (Nat × TypeId × Array Value)}{u u':World}(h:Pm w0 L u)(hk:Kept [] u u'):Pm w0 L u':=⟨fun p hp=>(h.s p hp).kept hk (by simp),h.k.a0f hk⟩
theorem Pm.drew{w0:World}{L:List (Nat × TypeId × Array Value)}{u:World}(h:Pm w0 L u):Pm w0 L u.drew:=⟨h.s,h.k.drew⟩
theorem Pm.cons{w0:World}{L:List (Nat × TypeId × Array Value)}{u:World}(h:Pm w0 L u){g:Nat}{t:TypeId}{cs:Array Value}(b:Blk u g t cs):Pm w0 ((g,t,cs) :: L) u:=
 ⟨fun p hp=>(List.mem_cons.1 hp).elim (fun e=>by subst e;exact b) (fun hp=>h.s p hp),h.k⟩
theorem Pm.fresh{w0 wr:World}{L:List (Nat × TypeId × Array Value)}(hr:Pm w0 L wr)(u u':World)(T:List Nat)(h:Pm w0 L u)(hk:Kept T u u')(hT:∀k∈T,wr.heap.size≤k):Pm w0 L u':=
 ⟨fun p hp=>(h.s p hp).kept hk fun hh=>by have:=hT _ hh;have:=(hr.s p hp).lt;omega,h.k.fresh hk fun k hh=>Nat.le_trans hr.k.size (hT k hh)⟩
theorem Pm.tail{w0:World}{L:List (Nat × TypeId × Array Value)}{x:Nat × TypeId × Array Value}{u:World}(h:Pm w0 (x :: L) u):Pm w0 L u:=⟨fun p hp=>h.s p (List.mem_cons_of_mem _ hp),h.k⟩
theorem Pm.put{w0:World}{g:Nat}{L:List (Nat × TypeId × Array Value)}{u u1 u2:World}{t:TypeId}{cs cs2:Array Value}(h:Pm w0 L u)(m:Made u u1 g t cs)(b:Blk u2 g t cs2)(k:Kept [g] u1 u2):Pm w0 ((g,t,cs2) :: L) u2:=by
 have h1:=h.kept m.kept
 have hl:=Nat.le_trans h.k.size m.le
 exact Pm.cons ⟨fun p hp=>(h1.s p hp).kept k (by simpa using m.ne (h.s p hp).lt),h1.k.a0r k hl⟩ b
theorem Pm.again{w0:World}{g:Nat}{L:List (Nat × TypeId × Array Value)}{u u2:World}{t:TypeId}{cs cs2:Array Value}(h:Pm w0 ((g,t,cs) :: L) u)(hl:w0.heap.size≤g)(hn:∀p∈L,p.1≠g)(b:Blk u2 g t cs2)(k:Kept [g] u u2):Pm w0 ((g,t,cs2) :: L) u2:=
 Pm.cons ⟨fun p hp=>(h.s p (List.mem_cons_of_mem _ hp)).kept k (by simpa using hn p hp),h.k.a0r k hl⟩ b
def ptc(X Y Z T:Nat→Nat):List Value:=uv (fam 5 X) ++ (uv (fam 5 Y) ++ (uv (fam 5 Z) ++ uv (fam 5 T)))
abbrev pv(X Y Z T:Nat→Nat):Value:=.agg (ptc X Y Z T).toArray
theorem a0l:RowT Try.prog 85 20:=⟨⟨_,Try.underlying85,rfl⟩,by kernel_rfl⟩
theorem c7n:(Try.prog.info? 85).map (·.zero)=some (some (pv a0j a0j a0j a0j)):=by kernel_rfl
theorem d2m(X Y Z T:Nat→Nat):∀u∈ptc X Y Z T,u.oneCell'=true:=by
 intro u hu
 unfold ptc at hu
 simp only [List.mem_append]at hu
 rcases hu with h | h | h | h <;> exact d9i _ u h
theorem c5x(X Y Z T:Nat→Nat):(ptc X Y Z T).toArray.all (·.oneCell')=true:=by
 rw [Array.all_eq_true_iff_forall_mem]
 intro v hv
 exact d2m X Y Z T v (by simpa using hv)
theorem c3u(X Y Z T:Nat→Nat):(ptc X Y Z T).length=20:=by simp [ptc,a7a]
theorem a5m(X Y Z T:Nat→Nat):(ptc X Y Z T).toArray.size=20:=by rw [List.size_toArray,c3u]
theorem e0y{u:World}{g:Nat}{bt:TypeId}{X Y Z T:Nat→Nat}(h:Blk u g bt (ptc X Y Z T).toArray):u.rangeAt g 0 (uv (fam 5 X)):=Blk.range (pre:=[]) h rfl
theorem e0l{u:World}{g:Nat}{bt:TypeId}{X Y Z T:Nat→Nat}(h:Blk u g bt (ptc X Y Z T).toArray):u.rangeAt g 5 (uv (fam 5 Y)):=Blk.range (pre:=uv (fam 5 X)) h (by simp [a7a])
theorem pt_z{u:World}{g:Nat}{bt:TypeId}{X Y Z T:Nat→Nat}(h:Blk u g bt (ptc X Y Z T).toArray):u.rangeAt g 10 (uv (fam 5 Z)):=Blk.range (pre:=uv (fam 5 X) ++ uv (fam 5 Y)) (post:=uv (fam 5 T)) (by unfold ptc at h;rwa [List.append_assoc]) (by simp [a7a])
theorem pt_t{u:World}{g:Nat}{bt:TypeId}{X Y Z T:Nat→Nat}(h:Blk u g bt (ptc X Y Z T).toArray):u.rangeAt g 15 (uv (fam 5 T)):=Blk.range (pre:=uv (fam 5 X) ++ uv (fam 5 Y) ++ uv (fam 5 Z)) (post:=[]) (by unfold ptc at h;rwa [List.append_assoc,List.append_assoc,List.append_nil]) (by simp [a7a])
theorem fa0(g:Nat)(W:World):(Instr.fieldAt 85 (.pointer (some ⟨g,0,none⟩)) 0).run Try.prog W= .ok (.pointer (some ⟨g,0,none⟩)) W:=by kernel_rfl
theorem fa1(g:Nat)(W:World):(Instr.fieldAt 85 (.pointer (some ⟨g,0,none⟩)) 1).run Try.prog W= .ok (.pointer (some ⟨g,5,none⟩)) W:=by kernel_rfl
theorem fa2(g:Nat)(W:World):(Instr.fieldAt 85 (.pointer (some ⟨g,0,none⟩)) 2).run Try.prog W= .ok (.pointer (some ⟨g,10,none⟩)) W:=by kernel_rfl
theorem fa3(g:Nat)(W:World):(Instr.fieldAt 85 (.pointer (some ⟨g,0,none⟩)) 3).run Try.prog W= .ok (.pointer (some ⟨g,15,none⟩)) W:=by kernel_rfl
theorem c7g(X Y Z T:Nat→Nat):Try.prog.built 85 [(0,el X),(1,el Y),(2,el Z),(3,el T)]=some (ptc X Y Z T).toArray:=by kernel_rfl
theorem a1v(F:Nat→Nat):(uv (fam 5 F)).length=5:=by simp [a7a]
theorem a3g(xs:Array Value)(w:World):(callFunc 81 xs).run Try.prog w= .ok (.enter 81 xs) w:=enters_of (c:=_) Try.func81 (by kernel_rfl) rfl xs w
theorem a2o(xs:Array Value)(w:World):(callFunc 79 xs).run Try.prog w= .ok (.enter 79 xs) w:=enters_of (c:=_) Try.func79 (by kernel_rfl) rfl xs w
end Go.Proofs.Ytdbngnlpafcogaa
namespace Go.Proofs.Ytdbngnlpafcogaa
open Go.RowKit Go.Mem Go.Txt
theorem b1i{o:Oper}{a:Act}{w:World}{C:Act→World→Prop}{R:Exit→Act→World→Prop}{x0 x1 x2 x3:Tmp}{X Y Z T:Nat→Nat}(ho:o.op= .build 85 #[(0,.tmp x0),(1,.tmp x1),(2,.tmp x2),(3,.tmp x3)])
 (h0:a.tmps.getD x0 undef=el X) (h1:a.tmps.getD x1 undef=el Y) (h2:a.tmps.getD x2 undef=el Z) (h3:a.tmps.getD x3 undef=el T) (h:C (a.put o.dst (pv X Y Z T)) w):o.wp Try.prog a w C R:=by
 have e:(#[(0,Operand.tmp x0),(1,Operand.tmp x1),(2,Operand.tmp x2),(3,Operand.tmp x3)].map fun(p:Nat × Operand)=>(p.1,a.eval p.2)).toList= [(0,el X),(1,el Y),(2,el Z),(3,el T)]:=by
  simp [Act.eval]at h0 h1 h2 h3 ⊢
  exact⟨h0,h1,h2,h3⟩
 refine wp_build _ _ ho (by rw [e,c7g];rfl) ?_
 rw [e,c7g]
 exact h
set_option maxHeartbeats 4000000 in
theorem d1h(X1 Y1 Z1 T1 X2 Y2 Z2 T2 K:Nat→Nat)(lX1:Lim X1)(lY1:Lim Y1)(lZ1:Lim Z1)(lT1:Lim T1)(lX2:Lim X2)(lY2:Lim Y2)(lZ2:Lim Z2)(lT2:Lim T2)(lK:Lim K)(w:World) :
 Calls Try.prog 68 #[pv X1 Y1 Z1 T1,pv X2 Y2 Z2 T2,el K] w fun e w'=>e= .returned (pv (mlF (suF (mlF (adF Y1 X1) (adF Y2 X2)) (mlF (suF Y1 X1) (suF Y2 X2))) (suF (adF (mlF Z1 Z2) (mlF Z1 Z2)) (mlF (mlF T1 K) T2))) (mlF (adF (adF (mlF Z1 Z2) (mlF Z1 Z2)) (mlF (mlF T1 K) T2)) (adF (mlF (adF Y1 X1) (adF Y2 X2)) (mlF (suF Y1 X1) (suF Y2 X2)))) (mlF (suF (adF (mlF Z1 Z2) (mlF Z1 Z2)) (mlF (mlF T1 K) T2)) (adF (adF (mlF Z1 Z2) (mlF Z1 Z2)) (mlF (mlF T1 K) T2))) (mlF (suF (mlF (adF Y1 X1) (adF Y2 X2)) (mlF (suF Y1 X1) (suF Y2 X2))) (adF (mlF (adF Y1 X1) (adF Y2 X2)) (mlF (suF Y1 X1) (suF Y2 X2)))))∧Kept [] w w':=by
 have k0:SuC Y1 X1 (suF Y1 X1):=c6z lY1 lX1
 replace k0:=hjd k0
 have k1:SuC Y2 X2 (suF Y2 X2):=c6z lY2 lX2
 replace k1:=hjd k1
 have k2:MlC (suF Y1 X1) (suF Y2 X2) (mlF (suF Y1 X1) (suF Y2 X2)):=b0s (a1h lY1 lX1) (a1h lY2 lX2)
 replace k2:=hjd k2
 have k3:AdC Y1 X1 (adF Y1 X1):=c7q lY1 lX1
 replace k3:=hjd k3
 have k4:AdC Y2 X2 (adF Y2 X2):=c7q lY2 lX2
 replace k4:=hjd k4
 have k5:MlC (adF Y1 X1) (adF Y2 X2) (mlF (adF Y1 X1) (adF Y2 X2)):=b0s (a0w lY1 lX1) (a0w lY2 lX2)
 replace k5:=hjd k5
 have k6:MlC T1 K (mlF T1 K):=b0s lT1 lK
 replace k6:=hjd k6
 have k7:MlC (mlF T1 K) T2 (mlF (mlF T1 K) T2):=b0s (a0i lT1 lK) lT2
 replace k7:=hjd k7
 have k8:MlC Z1 Z2 (mlF Z1 Z2):=b0s lZ1 lZ2
 replace k8:=hjd k8
 have k9:AdC (mlF Z1 Z2) (mlF Z1 Z2) (adF (mlF Z1 Z2) (mlF Z1 Z2)):=c7q (a0i lZ1 lZ2) (a0i lZ1 lZ2)
 replace k9:=hjd k9
 have k10:SuC (mlF (adF Y1 X1) (adF Y2 X2)) (mlF (suF Y1 X1) (suF Y2 X2)) (suF (mlF (adF Y1 X1) (adF Y2 X2)) (mlF (suF Y1 X1) (suF Y2 X2))):=c6z (a0i (a0w lY1 lX1) (a0w lY2 lX2)) (a0i (a1h lY1 lX1) (a1h lY2 lX2))
 replace k10:=hjd k10
 have k11:SuC (adF (mlF Z1 Z2) (mlF Z1 Z2)) (mlF (mlF T1 K) T2) (suF (adF (mlF Z1 Z2) (mlF Z1 Z2)) (mlF (mlF T1 K) T2)):=c6z (a0w (a0i lZ1 lZ2) (a0i lZ1 lZ2)) (a0i (a0i lT1 lK) lT2)
 replace k11:=hjd k11
 have k12:AdC (adF (mlF Z1 Z2) (mlF Z1 Z2)) (mlF (mlF T1 K) T2) (adF (adF (mlF Z1 Z2) (mlF Z1 Z2)) (mlF (mlF T1 K) T2)):=c7q (a0w (a0i lZ1 lZ2) (a0i lZ1 lZ2)) (a0i (a0i lT1 lK) lT2)
 replace k12:=hjd k12
 have k13:AdC (mlF (adF Y1 X1) (adF Y2 X2)) (mlF (suF Y1 X1) (suF Y2 X2)) (adF (mlF (adF Y1 X1) (adF Y2 X2)) (mlF (suF Y1 X1) (suF Y2 X2))):=c7q (a0i (a0w lY1 lX1) (a0w lY2 lX2)) (a0i (a1h lY1 lX1) (a1h lY2 lX2))
 replace k13:=hjd k13
 have k14:MlC (suF (mlF (adF Y1 X1) (adF Y2 X2)) (mlF (suF Y1 X1) (suF Y2 X2))) (suF (adF (mlF Z1 Z2) (mlF Z1 Z2)) (mlF (mlF T1 K) T2)) (mlF (suF (mlF (adF Y1 X1) (adF Y2 X2)) (mlF (suF Y1 X1) (suF Y2 X2))) (suF (adF (mlF Z1 Z2) (mlF Z1 Z2)) (mlF (mlF T1 K) T2))):=b0s (a1h (a0i (a0w lY1 lX1) (a0w lY2 lX2)) (a0i (a1h lY1 lX1) (a1h lY2 lX2))) (a1h (a0w (a0i lZ1 lZ2) (a0i lZ1 lZ2)) (a0i (a0i lT1 lK) lT2))
 replace k14:=hjd k14
 have k15:MlC (adF (adF (mlF Z1 Z2) (mlF Z1 Z2)) (mlF (mlF T1 K) T2)) (adF (mlF (adF Y1 X1) (adF Y2 X2)) (mlF (suF Y1 X1) (suF Y2 X2))) (mlF (adF (adF (mlF Z1 Z2) (mlF Z1 Z2)) (mlF (mlF T1 K) T2)) (adF (mlF (adF Y1 X1) (adF Y2 X2)) (mlF (suF Y1 X1) (suF Y2 X2)))):=b0s (a0w (a0w (a0i lZ1 lZ2) (a0i lZ1 lZ2)) (a0i (a0i lT1 lK) lT2)) (a0w (a0i (a0w lY1 lX1) (a0w lY2 lX2)) (a0i (a1h lY1 lX1) (a1h lY2 lX2)))
 replace k15:=hjd k15
 have k16:MlC (suF (adF (mlF Z1 Z2) (mlF Z1 Z2)) (mlF (mlF T1 K) T2)) (adF (adF (mlF Z1 Z2) (mlF Z1 Z2)) (mlF (mlF T1 K) T2)) (mlF (suF (adF (mlF Z1 Z2) (mlF Z1 Z2)) (mlF (mlF T1 K) T2)) (adF (adF (mlF Z1 Z2) (mlF Z1 Z2)) (mlF (mlF T1 K) T2))):=b0s (a1h (a0w (a0i lZ1 lZ2) (a0i lZ1 lZ2)) (a0i (a0i lT1 lK) lT2)) (a0w (a0w (a0i lZ1 lZ2) (a0i lZ1 lZ2)) (a0i (a0i lT1 lK) lT2))
 replace k16:=hjd k16
 have k17:MlC (suF (mlF (adF Y1 X1) (adF Y2 X2)) (mlF (suF Y1 X1) (suF Y2 X2))) (adF (mlF (adF Y1 X1) (adF Y2 X2)) (mlF (suF Y1 X1) (suF Y2 X2))) (mlF (suF (mlF (adF Y1 X1) (adF Y2 X2)) (mlF (suF Y1 X1) (suF Y2 X2))) (adF (mlF (adF Y1 X1) (adF Y2 X2)) (mlF (suF Y1 X1) (suF Y2 X2)))):=b0s (a1h (a0i (a0w lY1 lX1) (a0w lY2 lX2)) (a0i (a1h lY1 lX1) (a1h lY2 lX2))) (a0w (a0i (a0w lY1 lX1) (a0w lY2 lX2)) (a0i (a1h lY1 lX1) (a1h lY2 lX2)))
 replace k17:=hjd k17
 clear lX1 lY1 lZ1 lT1 lX2 lY2 lZ2 lT2 lK
 go_enter Try.func68,Try.ntmps68
 go_wp2_with (first
  | ((with_reducible refine a0p (o:=⟨some 3,_,_,_,_,_⟩) (v:=pv X1 Y1 Z1 T1) rfl (.tmp 0) rfl rfl ?_);intro g3 w3 m3)
  | ((with_reducible refine a0p (o:=⟨some 4,_,_,_,_,_⟩) (v:=pv X2 Y2 Z2 T2) rfl (.tmp 1) rfl rfl ?_);intro g4 w4 m4)
  | ((with_reducible refine a0p (o:=⟨some 5,_,_,_,_,_⟩) (v:=el K) rfl (.tmp 2) rfl rfl ?_);intro g5 w5 m5)
  | ((with_reducible refine a0h (o:=⟨some 6,_,_,_,_,_⟩) rfl rfl c7n ?_);intro g6 w6 m6))
 have t0:=(((((Pm.none w).kept m3.kept).cons m3.blk).kept m4.kept |>.cons m4.blk).kept m5.kept |>.cons m5.blk).kept m6.kept
 have r6:=hjd (And.intro m6.blk (Nat.le_trans (((m3.kept.a0f m4.kept).a0f m5.kept)).size m6.le))
 have t:=hjd (show Pm w [(g6,85,(ptc a0j a0j a0j a0j).toArray),(g5,83,(uv (fam 5 K)).toArray),(g4,85,(ptc X2 Y2 Z2 T2).toArray),(g3,85,(ptc X1 Y1 Z1 T1).toArray)] w6 from t0.cons m6.blk)
 have hl6:=hjd r6.out.2
 clear m3 m4 m5 m6 t0 r6
 refine a2i (by kernel_rfl) [.val (.pointer (some ⟨g3,5,none⟩)),.val (el Y1),.val (.pointer (some ⟨g3,0,none⟩)),.val (el X1),.val (el (suF Y1 X1)),.val (.pointer (some ⟨g4,5,none⟩)),.val (el Y2),.val (.pointer (some ⟨g4,0,none⟩)),.val (el X2),.val (el (suF Y2 X2)),.val (el (mlF (suF Y1 X1) (suF Y2 X2))),.new 83 (el a0j),.put 11 10 (uv (fam 5 (mlF (suF Y1 X1) (suF Y2 X2)))).toArray]
  (Pm w [(g6,85,(ptc a0j a0j a0j a0j).toArray),(g5,83,(uv (fam 5 K)).toArray),(g4,85,(ptc X2 Y2 Z2 T2).toArray),(g3,85,(ptc X1 Y1 Z1 T1).toArray)]) (by kernel_rfl) (by kernel_rfl) t.out.drew (fun u u' T hS hk hT=>t.out.fresh u u' T hS hk hT) ?_ ?_
 ·refine⟨?_,?_,?_,?_,?_,?_,?_,?_,?_,?_,?_,⟨⟨_,rfl⟩,rfl,a1b⟩,?_,trivial⟩
  ·exact⟨⟨_,rfl⟩,fun a' u K0 R hS hr ho h=>a1w (.tmp 3) rfl ((ho 3 (by decide)).trans rfl) (fa1 g3) (h u (Kept.refl _ _))⟩
  ·exact⟨⟨_,rfl⟩,fun a' u K0 R hS hr ho h=>a1x a0b (.tmp 15) rfl (hr 0 _ 15 _ rfl rfl rfl ⟨⟨0,.data⟩,by simp,rfl,rfl⟩) (e0l (hS.s (g3,85,(ptc X1 Y1 Z1 T1).toArray) (by simp))) (a1v _) (h u (Kept.refl _ _))⟩
  ·exact⟨⟨_,rfl⟩,fun a' u K0 R hS hr ho h=>a1w (.tmp 3) rfl ((ho 3 (by decide)).trans rfl) (fa0 g3) (h u (Kept.refl _ _))⟩
  ·exact⟨⟨_,rfl⟩,fun a' u K0 R hS hr ho h=>a1x a0b (.tmp 17) rfl (hr 2 _ 17 _ rfl rfl rfl ⟨⟨2,.data⟩,by simp,rfl,rfl⟩) (e0y (hS.s (g3,85,(ptc X1 Y1 Z1 T1).toArray) (by simp))) (a1v _) (h u (Kept.refl _ _))⟩
  ·refine⟨⟨_,rfl⟩,fun a' u K0 R hS hr ho h=>?_⟩
   refine a0m rfl a2o (vs:=#[el Y1,el X1]) ?_ (k0.out u) h
   have h0:=hr 1 (el Y1) 16 _ rfl rfl rfl ⟨⟨1,.data⟩,by simp,rfl,rfl⟩
   have h1:=hr 3 (el X1) 18 _ rfl rfl rfl ⟨⟨3,.data⟩,by simp,rfl,rfl⟩
   simp [Act.eval]at h0 h1 ⊢
   exact⟨h0,h1⟩
  ·exact⟨⟨_,rfl⟩,fun a' u K0 R hS hr ho h=>a1w (.tmp 4) rfl ((ho 4 (by decide)).trans rfl) (fa1 g4) (h u (Kept.refl _ _))⟩
  ·exact⟨⟨_,rfl⟩,fun a' u K0 R hS hr ho h=>a1x a0b (.tmp 20) rfl (hr 5 _ 20 _ rfl rfl rfl ⟨⟨5,.data⟩,by simp,rfl,rfl⟩) (e0l (hS.s (g4,85,(ptc X2 Y2 Z2 T2).toArray) (by simp))) (a1v _) (h u (Kept.refl _ _))⟩
  ·exact⟨⟨_,rfl⟩,fun a' u K0 R hS hr ho h=>a1w (.tmp 4) rfl ((ho 4 (by decide)).trans rfl) (fa0 g4) (h u (Kept.refl _ _))⟩
  ·exact⟨⟨_,rfl⟩,fun a' u K0 R hS hr ho h=>a1x a0b (.tmp 22) rfl (hr 7 _ 22 _ rfl rfl rfl ⟨⟨7,.data⟩,by simp,rfl,rfl⟩) (e0y (hS.s (g4,85,(ptc X2 Y2 Z2 T2).toArray) (by simp))) (a1v _) (h u (Kept.refl _ _))⟩
  ·refine⟨⟨_,rfl⟩,fun a' u K0 R hS hr ho h=>?_⟩
   refine a0m rfl a2o (vs:=#[el Y2,el X2]) ?_ (k1.out u) h
   have h0:=hr 6 (el Y2) 21 _ rfl rfl rfl ⟨⟨6,.data⟩,by simp,rfl,rfl⟩
   have h1:=hr 8 (el X2) 23 _ rfl rfl rfl ⟨⟨8,.data⟩,by simp,rfl,rfl⟩
   simp [Act.eval]at h0 h1 ⊢
   exact⟨h0,h1⟩
  ·refine⟨⟨_,rfl⟩,fun a' u K0 R hS hr ho h=>?_⟩
   refine a0m rfl a1d (vs:=#[el (suF Y1 X1),el (suF Y2 X2)]) ?_ (k2.out u) h
   have h0:=hr 4 (el (suF Y1 X1)) 19 _ rfl rfl rfl ⟨⟨4,.data⟩,by simp,rfl,rfl⟩
   have h1:=hr 9 (el (suF Y2 X2)) 24 _ rfl rfl rfl ⟨⟨9,.data⟩,by simp,rfl,rfl⟩
   simp [Act.eval]at h0 h1 ⊢
   exact⟨h0,h1⟩
  ·exact⟨rfl,⟨⟨11,.data⟩,by simp,rfl,rfl⟩,⟨⟨10,.data⟩,by simp,rfl,rfl⟩,_,_,_,_,_,_,_,_,rfl,rfl,rfl,rfl,rfl,rfl,rfl,a0b,rfl,rfl,a0u _⟩
 ·intro γ w11 hS hγ hne hput
  have b7:=hput 12 11 10 _ _ _ rfl rfl
  have hf7:=hγ 11 _ _ rfl
  generalize e7:γ 11=g7 at *
  simp [a1a,VK,List.range,List.range.loop,Act.put,e7]
  replace t:=hjd (show Pm w [(g7,83,(uv (fam 5 (mlF (suF Y1 X1) (suF Y2 X2)))).toArray),(g6,85,(ptc a0j a0j a0j a0j).toArray),(g5,83,(uv (fam 5 K)).toArray),(g4,85,(ptc X2 Y2 Z2 T2).toArray),(g3,85,(ptc X1 Y1 Z1 T1).toArray)] w11 from(hS).cons b7)
  clear b7 hput hne hγ hS e7 hf7
  go_wp2_with fail
  refine a2i (by kernel_rfl) [.val (.pointer (some ⟨g3,5,none⟩)),.val (el Y1),.val (.pointer (some ⟨g3,0,none⟩)),.val (el X1),.val (el (adF Y1 X1)),.val (.pointer (some ⟨g4,5,none⟩)),.val (el Y2),.val (.pointer (some ⟨g4,0,none⟩)),.val (el X2),.val (el (adF Y2 X2)),.val (el (mlF (adF Y1 X1) (adF Y2 X2))),.new 83 (el a0j),.put 11 10 (uv (fam 5 (mlF (adF Y1 X1) (adF Y2 X2)))).toArray]
   (Pm w [(g7,83,(uv (fam 5 (mlF (suF Y1 X1) (suF Y2 X2)))).toArray),(g6,85,(ptc a0j a0j a0j a0j).toArray),(g5,83,(uv (fam 5 K)).toArray),(g4,85,(ptc X2 Y2 Z2 T2).toArray),(g3,85,(ptc X1 Y1 Z1 T1).toArray)]) (by kernel_rfl) (by kernel_rfl) t.out.drew (fun u u' T hS hk hT=>t.out.fresh u u' T hS hk hT) ?_ ?_
  ·refine⟨?_,?_,?_,?_,?_,?_,?_,?_,?_,?_,?_,⟨⟨_,rfl⟩,rfl,a1b⟩,?_,trivial⟩
   ·exact⟨⟨_,rfl⟩,fun a' u K0 R hS hr ho h=>a1w (.tmp 3) rfl ((ho 3 (by decide)).trans rfl) (fa1 g3) (h u (Kept.refl _ _))⟩
   ·exact⟨⟨_,rfl⟩,fun a' u K0 R hS hr ho h=>a1x a0b (.tmp 26) rfl (hr 0 _ 26 _ rfl rfl rfl ⟨⟨0,.data⟩,by simp,rfl,rfl⟩) (e0l (hS.s (g3,85,(ptc X1 Y1 Z1 T1).toArray) (by simp))) (a1v _) (h u (Kept.refl _ _))⟩
   ·exact⟨⟨_,rfl⟩,fun a' u K0 R hS hr ho h=>a1w (.tmp 3) rfl ((ho 3 (by decide)).trans rfl) (fa0 g3) (h u (Kept.refl _ _))⟩
   ·exact⟨⟨_,rfl⟩,fun a' u K0 R hS hr ho h=>a1x a0b (.tmp 28) rfl (hr 2 _ 28 _ rfl rfl rfl ⟨⟨2,.data⟩,by simp,rfl,rfl⟩) (e0y (hS.s (g3,85,(ptc X1 Y1 Z1 T1).toArray) (by simp))) (a1v _) (h u (Kept.refl _ _))⟩
   ·refine⟨⟨_,rfl⟩,fun a' u K0 R hS hr ho h=>?_⟩
    refine a0m rfl a3g (vs:=#[el Y1,el X1]) ?_ (k3.out u) h
    have h0:=hr 1 (el Y1) 27 _ rfl rfl rfl ⟨⟨1,.data⟩,by simp,rfl,rfl⟩
    have h1:=hr 3 (el X1) 29 _ rfl rfl rfl ⟨⟨3,.data⟩,by simp,rfl,rfl⟩
    simp [Act.eval]at h0 h1 ⊢
    exact⟨h0,h1⟩
   ·exact⟨⟨_,rfl⟩,fun a' u K0 R hS hr ho h=>a1w (.tmp 4) rfl ((ho 4 (by decide)).trans rfl) (fa1 g4) (h u (Kept.refl _ _))⟩
   ·exact⟨⟨_,rfl⟩,fun a' u K0 R hS hr ho h=>a1x a0b (.tmp 31) rfl (hr 5 _ 31 _ rfl rfl rfl ⟨⟨5,.data⟩,by simp,rfl,rfl⟩) (e0l (hS.s (g4,85,(ptc X2 Y2 Z2 T2).toArray) (by simp))) (a1v _) (h u (Kept.refl _ _))⟩
   ·exact⟨⟨_,rfl⟩,fun a' u K0 R hS hr ho h=>a1w (.tmp 4) rfl ((ho 4 (by decide)).trans rfl) (fa0 g4) (h u (Kept.refl _ _))⟩
   ·exact⟨⟨_,rfl⟩,fun a' u K0 R hS hr ho h=>a1x a0b (.tmp 33) rfl (hr 7 _ 33 _ rfl rfl rfl ⟨⟨7,.data⟩,by simp,rfl,rfl⟩) (e0y (hS.s (g4,85,(ptc X2 Y2 Z2 T2).toArray) (by simp))) (a1v _) (h u (Kept.refl _ _))⟩
   ·refine⟨⟨_,rfl⟩,fun a' u K0 R hS hr ho h=>?_⟩
    refine a0m rfl a3g (vs:=#[el Y2,el X2]) ?_ (k4.out u) h
    have h0:=hr 6 (el Y2) 32 _ rfl rfl rfl ⟨⟨6,.data⟩,by simp,rfl,rfl⟩
    have h1:=hr 8 (el X2) 34 _ rfl rfl rfl ⟨⟨8,.data⟩,by simp,rfl,rfl⟩
    simp [Act.eval]at h0 h1 ⊢
    exact⟨h0,h1⟩
   ·refine⟨⟨_,rfl⟩,fun a' u K0 R hS hr ho h=>?_⟩
    refine a0m rfl a1d (vs:=#[el (adF Y1 X1),el (adF Y2 X2)]) ?_ (k5.out u) h
    have h0:=hr 4 (el (adF Y1 X1)) 30 _ rfl rfl rfl ⟨⟨4,.data⟩,by simp,rfl,rfl⟩
    have h1:=hr 9 (el (adF Y2 X2)) 35 _ rfl rfl rfl ⟨⟨9,.data⟩,by simp,rfl,rfl⟩
    simp [Act.eval]at h0 h1 ⊢
    exact⟨h0,h1⟩
   ·exact⟨rfl,⟨⟨11,.data⟩,by simp,rfl,rfl⟩,⟨⟨10,.data⟩,by simp,rfl,rfl⟩,_,_,_,_,_,_,_,_,rfl,rfl,rfl,rfl,rfl,rfl,rfl,a0b,rfl,rfl,a0u _⟩
  ·intro γ w12 hS hγ hne hput
   have b8:=hput 12 11 10 _ _ _ rfl rfl
   have hf8:=hγ 11 _ _ rfl
   generalize e8:γ 11=g8 at *
   simp [a1a,VK,List.range,List.range.loop,Act.put,e8]
   replace t:=hjd (show Pm w [(g8,83,(uv (fam 5 (mlF (adF Y1 X1) (adF Y2 X2)))).toArray),(g7,83,(uv (fam 5 (mlF (suF Y1 X1) (suF Y2 X2)))).toArray),(g6,85,(ptc a0j a0j a0j a0j).toArray),(g5,83,(uv (fam 5 K)).toArray),(g4,85,(ptc X2 Y2 Z2 T2).toArray),(g3,85,(ptc X1 Y1 Z1 T1).toArray)] w12 from(hS).cons b8)
   clear b8 hput hne hγ hS e8 hf8
   go_wp2_with fail
   refine a2i (by kernel_rfl) [.val (.pointer (some ⟨g3,15,none⟩)),.val (el T1),.val (el K),.val (el (mlF T1 K)),.val (.pointer (some ⟨g4,15,none⟩)),.val (el T2),.val (el (mlF (mlF T1 K) T2)),.new 83 (el a0j),.put 7 6 (uv (fam 5 (mlF (mlF T1 K) T2))).toArray]
    (Pm w [(g8,83,(uv (fam 5 (mlF (adF Y1 X1) (adF Y2 X2)))).toArray),(g7,83,(uv (fam 5 (mlF (suF Y1 X1) (suF Y2 X2)))).toArray),(g6,85,(ptc a0j a0j a0j a0j).toArray),(g5,83,(uv (fam 5 K)).toArray),(g4,85,(ptc X2 Y2 Z2 T2).toArray),(g3,85,(ptc X1 Y1 Z1 T1).toArray)]) (by kernel_rfl) (by kernel_rfl) t.out.drew (fun u u' T hS hk hT=>t.out.fresh u u' T hS hk hT) ?_ ?_
   ·refine⟨?_,?_,?_,?_,?_,?_,?_,⟨⟨_,rfl⟩,rfl,a1b⟩,?_,trivial⟩
    ·exact⟨⟨_,rfl⟩,fun a' u K0 R hS hr ho h=>a1w (.tmp 3) rfl ((ho 3 (by decide)).trans rfl) (fa3 g3) (h u (Kept.refl _ _))⟩
    ·exact⟨⟨_,rfl⟩,fun a' u K0 R hS hr ho h=>a1x a0b (.tmp 37) rfl (hr 0 _ 37 _ rfl rfl rfl ⟨⟨0,.data⟩,by simp,rfl,rfl⟩) (pt_t (hS.s (g3,85,(ptc X1 Y1 Z1 T1).toArray) (by simp))) (a1v _) (h u (Kept.refl _ _))⟩
    ·exact⟨⟨_,rfl⟩,fun a' u K0 R hS hr ho h=>a0n a0b (.tmp 5) rfl ((ho 5 (by decide)).trans rfl) (hS.s (g5,83,(uv (fam 5 K)).toArray) (by simp)) rfl (h u (Kept.refl _ _))⟩
    ·refine⟨⟨_,rfl⟩,fun a' u K0 R hS hr ho h=>?_⟩
     refine a0m rfl a1d (vs:=#[el T1,el K]) ?_ (k6.out u) h
     have h0:=hr 1 (el T1) 38 _ rfl rfl rfl ⟨⟨1,.data⟩,by simp,rfl,rfl⟩
     have h1:=hr 2 (el K) 39 _ rfl rfl rfl ⟨⟨2,.data⟩,by simp,rfl,rfl⟩
     simp [Act.eval]at h0 h1 ⊢
     exact⟨h0,h1⟩
    ·exact⟨⟨_,rfl⟩,fun a' u K0 R hS hr ho h=>a1w (.tmp 4) rfl ((ho 4 (by decide)).trans rfl) (fa3 g4) (h u (Kept.refl _ _))⟩
    ·exact⟨⟨_,rfl⟩,fun a' u K0 R hS hr ho h=>a1x a0b (.tmp 41) rfl (hr 4 _ 41 _ rfl rfl rfl ⟨⟨4,.data⟩,by simp,rfl,rfl⟩) (pt_t (hS.s (g4,85,(ptc X2 Y2 Z2 T2).toArray) (by simp))) (a1v _) (h u (Kept.refl _ _))⟩
    ·refine⟨⟨_,rfl⟩,fun a' u K0 R hS hr ho h=>?_⟩
     refine a0m rfl a1d (vs:=#[el (mlF T1 K),el T2]) ?_ (k7.out u) h
     have h0:=hr 3 (el (mlF T1 K)) 40 _ rfl rfl rfl ⟨⟨3,.data⟩,by simp,rfl,rfl⟩
     have h1:=hr 5 (el T2) 42 _ rfl rfl rfl ⟨⟨5,.data⟩,by simp,rfl,rfl⟩
     simp [Act.eval]at h0 h1 ⊢
     exact⟨h0,h1⟩
    ·exact⟨rfl,⟨⟨7,.data⟩,by simp,rfl,rfl⟩,⟨⟨6,.data⟩,by simp,rfl,rfl⟩,_,_,_,_,_,_,_,_,rfl,rfl,rfl,rfl,rfl,rfl,rfl,a0b,rfl,rfl,a0u _⟩
   ·intro γ w13 hS hγ hne hput
    have b9:=hput 8 7 6 _ _ _ rfl rfl
    have hf9:=hγ 7 _ _ rfl
    generalize e9:γ 7=g9 at *
    simp [a1a,VK,List.range,List.range.loop,Act.put,e9]
    replace t:=hjd (show Pm w [(g9,83,(uv (fam 5 (mlF (mlF T1 K) T2))).toArray),(g8,83,(uv (fam 5 (mlF (adF Y1 X1) (adF Y2 X2)))).toArray),(g7,83,(uv (fam 5 (mlF (suF Y1 X1) (suF Y2 X2)))).toArray),(g6,85,(ptc a0j a0j a0j a0j).toArray),(g5,83,(uv (fam 5 K)).toArray),(g4,85,(ptc X2 Y2 Z2 T2).toArray),(g3,85,(ptc X1 Y1 Z1 T1).toArray)] w13 from(hS).cons b9)
    clear b9 hput hne hγ hS e9 hf9
    go_wp2_with (first
     | (with_reducible refine a0z (o:=⟨some 45,_,_,_,_,_⟩) a0b rfl (.tmp 44) rfl rfl (pt_z (t.out.s (g3,85,(ptc X1 Y1 Z1 T1).toArray) (by simp))) (a1v _) ?_)
     | (with_reducible refine a0z (o:=⟨some 47,_,_,_,_,_⟩) a0b rfl (.tmp 46) rfl rfl (pt_z (t.out.s (g4,85,(ptc X2 Y2 Z2 T2).toArray) (by simp))) (a1v _) ?_)
     | (go_at_call 72;(with_reducible refine(k8.out _).mono ?_);rintro e y1 ⟨rfl,kk⟩;replace t:=hjd (t.out.kept kk);clear kk)
     | ((with_reducible refine a0h (o:=⟨some 10,_,_,_,_,_⟩) rfl rfl a1b ?_);intro g10 x10 m10;have hl10:=hjd (Nat.le_trans t.out.k.size m10.le);have hn10:=hjd (fun p hp=>m10.ne (t.out.s p hp).lt))
     | ((with_reducible refine a0c (o:=⟨none,.store 83 (.tmp 10) (.tmp 48),_,_,_,_⟩) a0b rfl (.tmp 10) (.tmp 48) rfl rfl rfl m10.blk rfl rfl (a0u _) ?_);intro v10 b10 k10;replace t:=hjd (t.out.put m10 b10 k10);clear m10 b10 k10)
     | (with_reducible refine a0d (o:=⟨some 49,_,_,_,_,_⟩) a0b rfl (.tmp 10) rfl rfl (t.out.s (g10,83,(uv (fam 5 (mlF Z1 Z2))).toArray) (by simp)) rfl ?_)
     | (with_reducible refine a0d (o:=⟨some 50,_,_,_,_,_⟩) a0b rfl (.tmp 10) rfl rfl (t.out.s (g10,83,(uv (fam 5 (mlF Z1 Z2))).toArray) (by simp)) rfl ?_)
     | (go_at_call 81;(with_reducible refine(k9.out _).mono ?_);rintro e y1 ⟨rfl,kk⟩;replace t:=hjd (t.out.kept kk);clear kk)
     | ((with_reducible refine a0c (o:=⟨none,.store 83 (.tmp 10) (.tmp 51),_,_,_,_⟩) a0b rfl (.tmp 10) (.tmp 51) rfl rfl rfl (t.out.s (g10,83,(uv (fam 5 (mlF Z1 Z2))).toArray) (by simp)) rfl rfl (a0u _) ?_);intro v11 b11 k11;replace t:=hjd (t.out.again hl10.out hn10.out b11 k11);clear b11 k11))
    go_wp2_with fail
    refine a2i (by kernel_rfl) [.val (el (mlF (adF Y1 X1) (adF Y2 X2))),.val (el (mlF (suF Y1 X1) (suF Y2 X2))),.val (el (suF (mlF (adF Y1 X1) (adF Y2 X2)) (mlF (suF Y1 X1) (suF Y2 X2)))),.val (el (adF (mlF Z1 Z2) (mlF Z1 Z2))),.val (el (mlF (mlF T1 K) T2)),.val (el (suF (adF (mlF Z1 Z2) (mlF Z1 Z2)) (mlF (mlF T1 K) T2))),.val (el (adF (mlF Z1 Z2) (mlF Z1 Z2))),.val (el (mlF (mlF T1 K) T2)),.val (el (adF (adF (mlF Z1 Z2) (mlF Z1 Z2)) (mlF (mlF T1 K) T2))),.val (el (mlF (adF Y1 X1) (adF Y2 X2))),.val (el (mlF (suF Y1 X1) (suF Y2 X2))),.val (el (adF (mlF (adF Y1 X1) (adF Y2 X2)) (mlF (suF Y1 X1) (suF Y2 X2)))),.new 83 (el a0j),.new 83 (el a0j),.new 83 (el a0j),.new 83 (el a0j),.put 12 2 (uv (fam 5 (suF (mlF (adF Y1 X1) (adF Y2 X2)) (mlF (suF Y1 X1) (suF Y2 X2))))).toArray,.put 13 5 (uv (fam 5 (suF (adF (mlF Z1 Z2) (mlF Z1 Z2)) (mlF (mlF T1 K) T2)))).toArray,.put 14 8 (uv (fam 5 (adF (adF (mlF Z1 Z2) (mlF Z1 Z2)) (mlF (mlF T1 K) T2)))).toArray,.put 15 11 (uv (fam 5 (adF (mlF (adF Y1 X1) (adF Y2 X2)) (mlF (suF Y1 X1) (suF Y2 X2))))).toArray]
     (Pm w [(g10,83,(uv (fam 5 (adF (mlF Z1 Z2) (mlF Z1 Z2)))).toArray),(g9,83,(uv (fam 5 (mlF (mlF T1 K) T2))).toArray),(g8,83,(uv (fam 5 (mlF (adF Y1 X1) (adF Y2 X2)))).toArray),(g7,83,(uv (fam 5 (mlF (suF Y1 X1) (suF Y2 X2)))).toArray),(g6,85,(ptc a0j a0j a0j a0j).toArray),(g5,83,(uv (fam 5 K)).toArray),(g4,85,(ptc X2 Y2 Z2 T2).toArray),(g3,85,(ptc X1 Y1 Z1 T1).toArray)]) (by kernel_rfl) (by kernel_rfl) t.out.drew (fun u u' T hS hk hT=>t.out.fresh u u' T hS hk hT) ?_ ?_
    ·refine⟨?_,?_,?_,?_,?_,?_,?_,?_,?_,?_,?_,?_,⟨⟨_,rfl⟩,rfl,a1b⟩,⟨⟨_,rfl⟩,rfl,a1b⟩,⟨⟨_,rfl⟩,rfl,a1b⟩,⟨⟨_,rfl⟩,rfl,a1b⟩,?_,?_,?_,?_,trivial⟩
     ·exact⟨⟨_,rfl⟩,fun a' u K0 R hS hr ho h=>a0n a0b (.tmp 8) rfl ((ho 8 (by decide)).trans rfl) (hS.s (g8,83,(uv (fam 5 (mlF (adF Y1 X1) (adF Y2 X2)))).toArray) (by simp)) rfl (h u (Kept.refl _ _))⟩
     ·exact⟨⟨_,rfl⟩,fun a' u K0 R hS hr ho h=>a0n a0b (.tmp 7) rfl ((ho 7 (by decide)).trans rfl) (hS.s (g7,83,(uv (fam 5 (mlF (suF Y1 X1) (suF Y2 X2)))).toArray) (by simp)) rfl (h u (Kept.refl _ _))⟩
     ·refine⟨⟨_,rfl⟩,fun a' u K0 R hS hr ho h=>?_⟩
      refine a0m rfl a2o (vs:=#[el (mlF (adF Y1 X1) (adF Y2 X2)),el (mlF (suF Y1 X1) (suF Y2 X2))]) ?_ (k10.out u) h
      have h0:=hr 0 (el (mlF (adF Y1 X1) (adF Y2 X2))) 52 _ rfl rfl rfl ⟨⟨0,.data⟩,by simp,rfl,rfl⟩
      have h1:=hr 1 (el (mlF (suF Y1 X1) (suF Y2 X2))) 53 _ rfl rfl rfl ⟨⟨1,.data⟩,by simp,rfl,rfl⟩
      simp [Act.eval]at h0 h1 ⊢
      exact⟨h0,h1⟩
     ·exact⟨⟨_,rfl⟩,fun a' u K0 R hS hr ho h=>a0n a0b (.tmp 10) rfl ((ho 10 (by decide)).trans rfl) (hS.s (g10,83,(uv (fam 5 (adF (mlF Z1 Z2) (mlF Z1 Z2)))).toArray) (by simp)) rfl (h u (Kept.refl _ _))⟩
     ·exact⟨⟨_,rfl⟩,fun a' u K0 R hS hr ho h=>a0n a0b (.tmp 9) rfl ((ho 9 (by decide)).trans rfl) (hS.s (g9,83,(uv (fam 5 (mlF (mlF T1 K) T2))).toArray) (by simp)) rfl (h u (Kept.refl _ _))⟩
     ·refine⟨⟨_,rfl⟩,fun a' u K0 R hS hr ho h=>?_⟩
      refine a0m rfl a2o (vs:=#[el (adF (mlF Z1 Z2) (mlF Z1 Z2)),el (mlF (mlF T1 K) T2)]) ?_ (k11.out u) h
      have h0:=hr 3 (el (adF (mlF Z1 Z2) (mlF Z1 Z2))) 55 _ rfl rfl rfl ⟨⟨3,.data⟩,by simp,rfl,rfl⟩
      have h1:=hr 4 (el (mlF (mlF T1 K) T2)) 56 _ rfl rfl rfl ⟨⟨4,.data⟩,by simp,rfl,rfl⟩
      simp [Act.eval]at h0 h1 ⊢
      exact⟨h0,h1⟩
     ·exact⟨⟨_,rfl⟩,fun a' u K0 R hS hr ho h=>a0n a0b (.tmp 10) rfl ((ho 10 (by decide)).trans rfl) (hS.s (g10,83,(uv (fam 5 (adF (mlF Z1 Z2) (mlF Z1 Z2)))).toArray) (by simp)) rfl (h u (Kept.refl _ _))⟩
     ·exact⟨⟨_,rfl⟩,fun a' u K0 R hS hr ho h=>a0n a0b (.tmp 9) rfl ((ho 9 (by decide)).trans rfl) (hS.s (g9,83,(uv (fam 5 (mlF (mlF T1 K) T2))).toArray) (by simp)) rfl (h u (Kept.refl _ _))⟩
     ·refine⟨⟨_,rfl⟩,fun a' u K0 R hS hr ho h=>?_⟩
      refine a0m rfl a3g (vs:=#[el (adF (mlF Z1 Z2) (mlF Z1 Z2)),el (mlF (mlF T1 K) T2)]) ?_ (k12.out u) h
      have h0:=hr 6 (el (adF (mlF Z1 Z2) (mlF Z1 Z2))) 58 _ rfl rfl rfl ⟨⟨6,.data⟩,by simp,rfl,rfl⟩
      have h1:=hr 7 (el (mlF (mlF T1 K) T2)) 59 _ rfl rfl rfl ⟨⟨7,.data⟩,by simp,rfl,rfl⟩
      simp [Act.eval]at h0 h1 ⊢
      exact⟨h0,h1⟩
     ·exact⟨⟨_,rfl⟩,fun a' u K0 R hS hr ho h=>a0n a0b (.tmp 8) rfl ((ho 8 (by decide)).trans rfl) (hS.s (g8,83,(uv (fam 5 (mlF (adF Y1 X1) (adF Y2 X2)))).toArray) (by simp)) rfl (h u (Kept.refl _ _))⟩
     ·exact⟨⟨_,rfl⟩,fun a' u K0 R hS hr ho h=>a0n a0b (.tmp 7) rfl ((ho 7 (by decide)).trans rfl) (hS.s (g7,83,(uv (fam 5 (mlF (suF Y1 X1) (suF Y2 X2)))).toArray) (by simp)) rfl (h u (Kept.refl _ _))⟩
     ·refine⟨⟨_,rfl⟩,fun a' u K0 R hS hr ho h=>?_⟩
      refine a0m rfl a3g (vs:=#[el (mlF (adF Y1 X1) (adF Y2 X2)),el (mlF (suF Y1 X1) (suF Y2 X2))]) ?_ (k13.out u) h
      have h0:=hr 9 (el (mlF (adF Y1 X1) (adF Y2 X2))) 61 _ rfl rfl rfl ⟨⟨9,.data⟩,by simp,rfl,rfl⟩
      have h1:=hr 10 (el (mlF (suF Y1 X1) (suF Y2 X2))) 62 _ rfl rfl rfl ⟨⟨10,.data⟩,by simp,rfl,rfl⟩
      simp [Act.eval]at h0 h1 ⊢
      exact⟨h0,h1⟩
     ·exact⟨rfl,⟨⟨12,.data⟩,by simp,rfl,rfl⟩,⟨⟨2,.data⟩,by simp,rfl,rfl⟩,_,_,_,_,_,_,_,_,rfl,rfl,rfl,rfl,rfl,rfl,rfl,a0b,rfl,rfl,a0u _⟩
     ·exact⟨rfl,⟨⟨13,.data⟩,by simp,rfl,rfl⟩,⟨⟨5,.data⟩,by simp,rfl,rfl⟩,_,_,_,_,_,_,_,_,rfl,rfl,rfl,rfl,rfl,rfl,rfl,a0b,rfl,rfl,a0u _⟩
     ·exact⟨rfl,⟨⟨14,.data⟩,by simp,rfl,rfl⟩,⟨⟨8,.data⟩,by simp,rfl,rfl⟩,_,_,_,_,_,_,_,_,rfl,rfl,rfl,rfl,rfl,rfl,rfl,a0b,rfl,rfl,a0u _⟩
     ·exact⟨rfl,⟨⟨15,.data⟩,by simp,rfl,rfl⟩,⟨⟨11,.data⟩,by simp,rfl,rfl⟩,_,_,_,_,_,_,_,_,rfl,rfl,rfl,rfl,rfl,rfl,rfl,a0b,rfl,rfl,a0u _⟩
    ·intro γ w16 hS hγ hne hput
     have b11:=hput 16 12 2 _ _ _ rfl rfl
     have b12:=hput 17 13 5 _ _ _ rfl rfl
     have b13:=hput 18 14 8 _ _ _ rfl rfl
     have b14:=hput 19 15 11 _ _ _ rfl rfl
     have hf11:=hγ 12 _ _ rfl
     have hf12:=hγ 13 _ _ rfl
     have hf13:=hγ 14 _ _ rfl
     have hf14:=hγ 15 _ _ rfl
     generalize e11:γ 12=g11 at *
     generalize e12:γ 13=g12 at *
     generalize e13:γ 14=g13 at *
     generalize e14:γ 15=g14 at *
     simp [a1a,VK,List.range,List.range.loop,Act.put,e11,e12,e13,e14]
     replace t:=hjd (show Pm w [(g14,83,(uv (fam 5 (adF (mlF (adF Y1 X1) (adF Y2 X2)) (mlF (suF Y1 X1) (suF Y2 X2))))).toArray),(g13,83,(uv (fam 5 (adF (adF (mlF Z1 Z2) (mlF Z1 Z2)) (mlF (mlF T1 K) T2)))).toArray),(g12,83,(uv (fam 5 (suF (adF (mlF Z1 Z2) (mlF Z1 Z2)) (mlF (mlF T1 K) T2)))).toArray),(g11,83,(uv (fam 5 (suF (mlF (adF Y1 X1) (adF Y2 X2)) (mlF (suF Y1 X1) (suF Y2 X2))))).toArray),(g10,83,(uv (fam 5 (adF (mlF Z1 Z2) (mlF Z1 Z2)))).toArray),(g9,83,(uv (fam 5 (mlF (mlF T1 K) T2))).toArray),(g8,83,(uv (fam 5 (mlF (adF Y1 X1) (adF Y2 X2)))).toArray),(g7,83,(uv (fam 5 (mlF (suF Y1 X1) (suF Y2 X2)))).toArray),(g6,85,(ptc a0j a0j a0j a0j).toArray),(g5,83,(uv (fam 5 K)).toArray),(g4,85,(ptc X2 Y2 Z2 T2).toArray),(g3,85,(ptc X1 Y1 Z1 T1).toArray)] w16 from((((hS).cons b11).cons b12).cons b13).cons b14)
     clear b11 b12 b13 b14 hput hne hγ hS e11 e12 e13 e14 hf11 hf12 hf13 hf14
     go_wp2_with fail
     refine a6p (by kernel_rfl) [el (suF (mlF (adF Y1 X1) (adF Y2 X2)) (mlF (suF Y1 X1) (suF Y2 X2))),el (suF (adF (mlF Z1 Z2) (mlF Z1 Z2)) (mlF (mlF T1 K) T2)),el (mlF (suF (mlF (adF Y1 X1) (adF Y2 X2)) (mlF (suF Y1 X1) (suF Y2 X2))) (suF (adF (mlF Z1 Z2) (mlF Z1 Z2)) (mlF (mlF T1 K) T2))),el (adF (adF (mlF Z1 Z2) (mlF Z1 Z2)) (mlF (mlF T1 K) T2)),el (adF (mlF (adF Y1 X1) (adF Y2 X2)) (mlF (suF Y1 X1) (suF Y2 X2))),el (mlF (adF (adF (mlF Z1 Z2) (mlF Z1 Z2)) (mlF (mlF T1 K) T2)) (adF (mlF (adF Y1 X1) (adF Y2 X2)) (mlF (suF Y1 X1) (suF Y2 X2)))),el (suF (adF (mlF Z1 Z2) (mlF Z1 Z2)) (mlF (mlF T1 K) T2)),el (adF (adF (mlF Z1 Z2) (mlF Z1 Z2)) (mlF (mlF T1 K) T2)),el (mlF (suF (adF (mlF Z1 Z2) (mlF Z1 Z2)) (mlF (mlF T1 K) T2)) (adF (adF (mlF Z1 Z2) (mlF Z1 Z2)) (mlF (mlF T1 K) T2))),el (suF (mlF (adF Y1 X1) (adF Y2 X2)) (mlF (suF Y1 X1) (suF Y2 X2))),el (adF (mlF (adF Y1 X1) (adF Y2 X2)) (mlF (suF Y1 X1) (suF Y2 X2))),el (mlF (suF (mlF (adF Y1 X1) (adF Y2 X2)) (mlF (suF Y1 X1) (suF Y2 X2))) (adF (mlF (adF Y1 X1) (adF Y2 X2)) (mlF (suF Y1 X1) (suF Y2 X2)))),pv (mlF (suF (mlF (adF Y1 X1) (adF Y2 X2)) (mlF (suF Y1 X1) (suF Y2 X2))) (suF (adF (mlF Z1 Z2) (mlF Z1 Z2)) (mlF (mlF T1 K) T2))) (mlF (adF (adF (mlF Z1 Z2) (mlF Z1 Z2)) (mlF (mlF T1 K) T2)) (adF (mlF (adF Y1 X1) (adF Y2 X2)) (mlF (suF Y1 X1) (suF Y2 X2)))) (mlF (suF (adF (mlF Z1 Z2) (mlF Z1 Z2)) (mlF (mlF T1 K) T2)) (adF (adF (mlF Z1 Z2) (mlF Z1 Z2)) (mlF (mlF T1 K) T2))) (mlF (suF (mlF (adF Y1 X1) (adF Y2 X2)) (mlF (suF Y1 X1) (suF Y2 X2))) (adF (mlF (adF Y1 X1) (adF Y2 X2)) (mlF (suF Y1 X1) (suF Y2 X2))))]
      (Pm w [(g14,83,(uv (fam 5 (adF (mlF (adF Y1 X1) (adF Y2 X2)) (mlF (suF Y1 X1) (suF Y2 X2))))).toArray),(g13,83,(uv (fam 5 (adF (adF (mlF Z1 Z2) (mlF Z1 Z2)) (mlF (mlF T1 K) T2)))).toArray),(g12,83,(uv (fam 5 (suF (adF (mlF Z1 Z2) (mlF Z1 Z2)) (mlF (mlF T1 K) T2)))).toArray),(g11,83,(uv (fam 5 (suF (mlF (adF Y1 X1) (adF Y2 X2)) (mlF (suF Y1 X1) (suF Y2 X2))))).toArray),(g10,83,(uv (fam 5 (adF (mlF Z1 Z2) (mlF Z1 Z2)))).toArray),(g9,83,(uv (fam 5 (mlF (mlF T1 K) T2))).toArray),(g8,83,(uv (fam 5 (mlF (adF Y1 X1) (adF Y2 X2)))).toArray),(g7,83,(uv (fam 5 (mlF (suF Y1 X1) (suF Y2 X2)))).toArray),(g6,85,(ptc a0j a0j a0j a0j).toArray),(g5,83,(uv (fam 5 K)).toArray),(g4,85,(ptc X2 Y2 Z2 T2).toArray),(g3,85,(ptc X1 Y1 Z1 T1).toArray)]) (by kernel_rfl) rfl rfl (by kernel_rfl) t.out.drew (fun u u' h hk=>h.kept hk) ?_ ?_
     ·refine⟨?_,?_,?_,?_,?_,?_,?_,?_,?_,?_,?_,?_,?_,trivial⟩
      ·exact fun a' u K0 R hS hr ho h=>a0n a0b (.tmp 11) rfl ((ho 11 (by decide)).trans rfl) (hS.s (g11,83,(uv (fam 5 (suF (mlF (adF Y1 X1) (adF Y2 X2)) (mlF (suF Y1 X1) (suF Y2 X2))))).toArray) (by simp)) rfl (h u (Kept.refl _ _))
      ·exact fun a' u K0 R hS hr ho h=>a0n a0b (.tmp 12) rfl ((ho 12 (by decide)).trans rfl) (hS.s (g12,83,(uv (fam 5 (suF (adF (mlF Z1 Z2) (mlF Z1 Z2)) (mlF (mlF T1 K) T2)))).toArray) (by simp)) rfl (h u (Kept.refl _ _))
      ·refine fun a' u K0 R hS hr ho h=>?_
       refine a0m rfl a1d (vs:=#[el (suF (mlF (adF Y1 X1) (adF Y2 X2)) (mlF (suF Y1 X1) (suF Y2 X2))),el (suF (adF (mlF Z1 Z2) (mlF Z1 Z2)) (mlF (mlF T1 K) T2))]) ?_ (k14.out u) h
       have h0:=hr 0 (el (suF (mlF (adF Y1 X1) (adF Y2 X2)) (mlF (suF Y1 X1) (suF Y2 X2)))) 64 _ rfl rfl rfl ⟨⟨0,.data⟩,by simp,rfl,rfl⟩
       have h1:=hr 1 (el (suF (adF (mlF Z1 Z2) (mlF Z1 Z2)) (mlF (mlF T1 K) T2))) 65 _ rfl rfl rfl ⟨⟨1,.data⟩,by simp,rfl,rfl⟩
       simp [Act.eval]at h0 h1 ⊢
       exact⟨h0,h1⟩
      ·exact fun a' u K0 R hS hr ho h=>a0n a0b (.tmp 13) rfl ((ho 13 (by decide)).trans rfl) (hS.s (g13,83,(uv (fam 5 (adF (adF (mlF Z1 Z2) (mlF Z1 Z2)) (mlF (mlF T1 K) T2)))).toArray) (by simp)) rfl (h u (Kept.refl _ _))
      ·exact fun a' u K0 R hS hr ho h=>a0n a0b (.tmp 14) rfl ((ho 14 (by decide)).trans rfl) (hS.s (g14,83,(uv (fam 5 (adF (mlF (adF Y1 X1) (adF Y2 X2)) (mlF (suF Y1 X1) (suF Y2 X2))))).toArray) (by simp)) rfl (h u (Kept.refl _ _))
      ·refine fun a' u K0 R hS hr ho h=>?_
       refine a0m rfl a1d (vs:=#[el (adF (adF (mlF Z1 Z2) (mlF Z1 Z2)) (mlF (mlF T1 K) T2)),el (adF (mlF (adF Y1 X1) (adF Y2 X2)) (mlF (suF Y1 X1) (suF Y2 X2)))]) ?_ (k15.out u) h
       have h0:=hr 3 (el (adF (adF (mlF Z1 Z2) (mlF Z1 Z2)) (mlF (mlF T1 K) T2))) 67 _ rfl rfl rfl ⟨⟨3,.data⟩,by simp,rfl,rfl⟩
       have h1:=hr 4 (el (adF (mlF (adF Y1 X1) (adF Y2 X2)) (mlF (suF Y1 X1) (suF Y2 X2)))) 68 _ rfl rfl rfl ⟨⟨4,.data⟩,by simp,rfl,rfl⟩
       simp [Act.eval]at h0 h1 ⊢
       exact⟨h0,h1⟩
      ·exact fun a' u K0 R hS hr ho h=>a0n a0b (.tmp 12) rfl ((ho 12 (by decide)).trans rfl) (hS.s (g12,83,(uv (fam 5 (suF (adF (mlF Z1 Z2) (mlF Z1 Z2)) (mlF (mlF T1 K) T2)))).toArray) (by simp)) rfl (h u (Kept.refl _ _))
      ·exact fun a' u K0 R hS hr ho h=>a0n a0b (.tmp 13) rfl ((ho 13 (by decide)).trans rfl) (hS.s (g13,83,(uv (fam 5 (adF (adF (mlF Z1 Z2) (mlF Z1 Z2)) (mlF (mlF T1 K) T2)))).toArray) (by simp)) rfl (h u (Kept.refl _ _))
      ·refine fun a' u K0 R hS hr ho h=>?_
       refine a0m rfl a1d (vs:=#[el (suF (adF (mlF Z1 Z2) (mlF Z1 Z2)) (mlF (mlF T1 K) T2)),el (adF (adF (mlF Z1 Z2) (mlF Z1 Z2)) (mlF (mlF T1 K) T2))]) ?_ (k16.out u) h
       have h0:=hr 6 (el (suF (adF (mlF Z1 Z2) (mlF Z1 Z2)) (mlF (mlF T1 K) T2))) 70 _ rfl rfl rfl ⟨⟨6,.data⟩,by simp,rfl,rfl⟩
       have h1:=hr 7 (el (adF (adF (mlF Z1 Z2) (mlF Z1 Z2)) (mlF (mlF T1 K) T2))) 71 _ rfl rfl rfl ⟨⟨7,.data⟩,by simp,rfl,rfl⟩
       simp [Act.eval]at h0 h1 ⊢
       exact⟨h0,h1⟩
      ·exact fun a' u K0 R hS hr ho h=>a0n a0b (.tmp 11) rfl ((ho 11 (by decide)).trans rfl) (hS.s (g11,83,(uv (fam 5 (suF (mlF (adF Y1 X1) (adF Y2 X2)) (mlF (suF Y1 X1) (suF Y2 X2))))).toArray) (by simp)) rfl (h u (Kept.refl _ _))
      ·exact fun a' u K0 R hS hr ho h=>a0n a0b (.tmp 14) rfl ((ho 14 (by decide)).trans rfl) (hS.s (g14,83,(uv (fam 5 (adF (mlF (adF Y1 X1) (adF Y2 X2)) (mlF (suF Y1 X1) (suF Y2 X2))))).toArray) (by simp)) rfl (h u (Kept.refl _ _))
      ·refine fun a' u K0 R hS hr ho h=>?_
       refine a0m rfl a1d (vs:=#[el (suF (mlF (adF Y1 X1) (adF Y2 X2)) (mlF (suF Y1 X1) (suF Y2 X2))),el (adF (mlF (adF Y1 X1) (adF Y2 X2)) (mlF (suF Y1 X1) (suF Y2 X2)))]) ?_ (k17.out u) h
       have h0:=hr 9 (el (suF (mlF (adF Y1 X1) (adF Y2 X2)) (mlF (suF Y1 X1) (suF Y2 X2)))) 73 _ rfl rfl rfl ⟨⟨9,.data⟩,by simp,rfl,rfl⟩
       have h1:=hr 10 (el (adF (mlF (adF Y1 X1) (adF Y2 X2)) (mlF (suF Y1 X1) (suF Y2 X2)))) 74 _ rfl rfl rfl ⟨⟨10,.data⟩,by simp,rfl,rfl⟩
       simp [Act.eval]at h0 h1 ⊢
       exact⟨h0,h1⟩
      ·refine fun a' u K0 R hS hr ho h=>?_
       have h0:=hr 2 (el (mlF (suF (mlF (adF Y1 X1) (adF Y2 X2)) (mlF (suF Y1 X1) (suF Y2 X2))) (suF (adF (mlF Z1 Z2) (mlF Z1 Z2)) (mlF (mlF T1 K) T2)))) 66 _ rfl rfl rfl ⟨⟨2,.data⟩,by simp,rfl,rfl⟩
       have h1:=hr 5 (el (mlF (adF (adF (mlF Z1 Z2) (mlF Z1 Z2)) (mlF (mlF T1 K) T2)) (adF (mlF (adF Y1 X1) (adF Y2 X2)) (mlF (suF Y1 X1) (suF Y2 X2))))) 69 _ rfl rfl rfl ⟨⟨5,.data⟩,by simp,rfl,rfl⟩
       have h2:=hr 8 (el (mlF (suF (adF (mlF Z1 Z2) (mlF Z1 Z2)) (mlF (mlF T1 K) T2)) (adF (adF (mlF Z1 Z2) (mlF Z1 Z2)) (mlF (mlF T1 K) T2)))) 72 _ rfl rfl rfl ⟨⟨8,.data⟩,by simp,rfl,rfl⟩
       have h3:=hr 11 (el (mlF (suF (mlF (adF Y1 X1) (adF Y2 X2)) (mlF (suF Y1 X1) (suF Y2 X2))) (adF (mlF (adF Y1 X1) (adF Y2 X2)) (mlF (suF Y1 X1) (suF Y2 X2))))) 75 _ rfl rfl rfl ⟨⟨11,.data⟩,by simp,rfl,rfl⟩
       exact b1i rfl h0 h1 h2 h3 (h u (Kept.refl _ _))
     intro u7 hS7
     simp [a1a,List.range,List.range.loop,Act.put]
     refine a5b a0l (.tmp 6) (.tmp 76) rfl rfl rfl (hS7.s (g6,85,(ptc a0j a0j a0j a0j).toArray) (by simp)) (a5m _ _ _ _) (a5m _ _ _ _) (c5x _ _ _ _) ?_
     simp [Act.put]
     have b7:=(hS7.s (g6,85,(ptc a0j a0j a0j a0j).toArray) (by simp)).a5a (ptc (mlF (suF (mlF (adF Y1 X1) (adF Y2 X2)) (mlF (suF Y1 X1) (suF Y2 X2))) (suF (adF (mlF Z1 Z2) (mlF Z1 Z2)) (mlF (mlF T1 K) T2))) (mlF (adF (adF (mlF Z1 Z2) (mlF Z1 Z2)) (mlF (mlF T1 K) T2)) (adF (mlF (adF Y1 X1) (adF Y2 X2)) (mlF (suF Y1 X1) (suF Y2 X2)))) (mlF (suF (adF (mlF Z1 Z2) (mlF Z1 Z2)) (mlF (mlF T1 K) T2)) (adF (adF (mlF Z1 Z2) (mlF Z1 Z2)) (mlF (mlF T1 K) T2))) (mlF (suF (mlF (adF Y1 X1) (adF Y2 X2)) (mlF (suF Y1 X1) (suF Y2 X2))) (adF (mlF (adF Y1 X1) (adF Y2 X2)) (mlF (suF Y1 X1) (suF Y2 X2))))).toArray
     have kk7:Kept [g6] u7 (u7.setRow g6 (ptc (mlF (suF (mlF (adF Y1 X1) (adF Y2 X2)) (mlF (suF Y1 X1) (suF Y2 X2))) (suF (adF (mlF Z1 Z2) (mlF Z1 Z2)) (mlF (mlF T1 K) T2))) (mlF (adF (adF (mlF Z1 Z2) (mlF Z1 Z2)) (mlF (mlF T1 K) T2)) (adF (mlF (adF Y1 X1) (adF Y2 X2)) (mlF (suF Y1 X1) (suF Y2 X2)))) (mlF (suF (adF (mlF Z1 Z2) (mlF Z1 Z2)) (mlF (mlF T1 K) T2)) (adF (adF (mlF Z1 Z2) (mlF Z1 Z2)) (mlF (mlF T1 K) T2))) (mlF (suF (mlF (adF Y1 X1) (adF Y2 X2)) (mlF (suF Y1 X1) (suF Y2 X2))) (adF (mlF (adF Y1 X1) (adF Y2 X2)) (mlF (suF Y1 X1) (suF Y2 X2))))).toArray):=(Kept.refl [g6] u7).setRow (.inl (by simp)) _
     have k7:=hS7.k.a0r kk7 hl6.out
     clear kk7 hS7
     go_wp2_with fail
     exact a1k a0l rfl rfl b7 (a5m _ _ _ _) rfl ⟨rfl,k7⟩
end Go.Proofs.Ytdbngnlpafcogaa
namespace Go.Proofs.Ytdbngnlpafcogaa
open Go.RowKit Go.Mem Go.Txt
theorem c0x(xs:Array Value)(w:World):(callFunc 77 xs).run Try.prog w= .ok (.enter 77 xs) w:=enters_of (c:=_) Try.func77 (by kernel_rfl) rfl xs w
theorem e1s:∀w,Calls Try.prog 77 #[.int .u64 1] w fun e w'=>e= .returned (el (smL 1))∧Kept [] w w':=fun w=>b4z 1 w (by decide)
theorem e0c:∀w,Calls Try.prog 77 #[.int .u64 0] w fun e w'=>e= .returned (el (smL 0))∧Kept [] w w':=fun w=>b4z 0 w (by decide)
abbrev AfC(X Y:Nat→Nat):Prop:=∀W,Calls Try.prog 62 #[el X,el Y] W fun e w'=>e= .returned (pv X Y (smL 1) (mlF X Y))∧Kept [] W w'
set_option maxHeartbeats 1600000 in
theorem a9k(X Y:Nat→Nat)(lX:Lim X)(lY:Lim Y):AfC X Y:=by
 intro w
 have cm:=hjd (b0s lX lY)
 clear lX lY
 go_enter Try.func62,Try.ntmps62
 go_wp2_with (first
  | ((with_reducible refine a0p (o:=⟨some 2,_,_,_,_,_⟩) (v:=el X) rfl (.tmp 0) rfl rfl ?_);intro g2 w2 m2)
  | ((with_reducible refine a0p (o:=⟨some 3,_,_,_,_,_⟩) (v:=el Y) rfl (.tmp 1) rfl rfl ?_);intro g3 w3 m3)
  | ((with_reducible refine a0h (o:=⟨some 4,_,_,_,_,_⟩) rfl rfl c7n ?_);intro g4 w4 m4))
 have t0:=((((Pm.none w).kept m2.kept).cons m2.blk).kept m3.kept |>.cons m3.blk).kept m4.kept
 have hl4:=hjd (Nat.le_trans (m2.kept.a0f m3.kept).size m4.le)
 have t:=hjd (show Pm w [(g4,85,(ptc a0j a0j a0j a0j).toArray),(g3,83,(uv (fam 5 Y)).toArray),(g2,83,(uv (fam 5 X)).toArray)] w4 from t0.cons m4.blk)
 clear m2 m3 m4 t0
 refine a6p (by kernel_rfl) [el X,el Y,el (smL 1),el X,el Y,el (mlF X Y),pv X Y (smL 1) (mlF X Y)]
  (Pm w [(g4,85,(ptc a0j a0j a0j a0j).toArray),(g3,83,(uv (fam 5 Y)).toArray),(g2,83,(uv (fam 5 X)).toArray)]) (by kernel_rfl) rfl rfl (by kernel_rfl) t.out.drew (fun u u' h hk=>h.kept hk) ?_ ?_
 ·refine⟨?_,?_,?_,?_,?_,?_,?_,trivial⟩
  ·exact fun a' u K0 R hS hr ho h=>a0n a0b (.tmp 2) rfl ((ho 2 (by decide)).trans rfl) (hS.s (g2,83,(uv (fam 5 X)).toArray) (by simp)) rfl (h u (Kept.refl _ _))
  ·exact fun a' u K0 R hS hr ho h=>a0n a0b (.tmp 3) rfl ((ho 3 (by decide)).trans rfl) (hS.s (g3,83,(uv (fam 5 Y)).toArray) (by simp)) rfl (h u (Kept.refl _ _))
  ·exact fun a' u K0 R hS hr ho h=>a0m rfl c0x (vs:=#[.int .u64 1]) (by simp [Act.eval]) (e1s u) h
  ·exact fun a' u K0 R hS hr ho h=>a0n a0b (.tmp 2) rfl ((ho 2 (by decide)).trans rfl) (hS.s (g2,83,(uv (fam 5 X)).toArray) (by simp)) rfl (h u (Kept.refl _ _))
  ·exact fun a' u K0 R hS hr ho h=>a0n a0b (.tmp 3) rfl ((ho 3 (by decide)).trans rfl) (hS.s (g3,83,(uv (fam 5 Y)).toArray) (by simp)) rfl (h u (Kept.refl _ _))
  ·refine fun a' u K0 R hS hr ho h=>?_
   refine a0m rfl a1d (vs:=#[el X,el Y]) ?_ (cm.out u) h
   have h0:=hr 3 (el X) 8 _ rfl rfl rfl ⟨⟨3,.data⟩,by simp,rfl,rfl⟩
   have h1:=hr 4 (el Y) 9 _ rfl rfl rfl ⟨⟨4,.data⟩,by simp,rfl,rfl⟩
   simp [Act.eval]at h0 h1 ⊢
   exact⟨h0,h1⟩
  ·refine fun a' u K0 R hS hr ho h=>?_
   have h0:=hr 0 (el X) 5 _ rfl rfl rfl ⟨⟨0,.data⟩,by simp,rfl,rfl⟩
   have h1:=hr 1 (el Y) 6 _ rfl rfl rfl ⟨⟨1,.data⟩,by simp,rfl,rfl⟩
   have h2:=hr 2 (el (smL 1)) 7 _ rfl rfl rfl ⟨⟨2,.data⟩,by simp,rfl,rfl⟩
   have h3:=hr 5 (el (mlF X Y)) 10 _ rfl rfl rfl ⟨⟨5,.data⟩,by simp,rfl,rfl⟩
   exact b1i rfl h0 h1 h2 h3 (h u (Kept.refl _ _))
 intro u7 hS7
 simp [a1a,List.range,List.range.loop,Act.put]
 refine a5b a0l (.tmp 4) (.tmp 11) rfl rfl rfl (hS7.s (g4,85,(ptc a0j a0j a0j a0j).toArray) (by simp)) (a5m _ _ _ _) (a5m _ _ _ _) (c5x _ _ _ _) ?_
 simp [Act.put]
 have b7:=(hS7.s (g4,85,(ptc a0j a0j a0j a0j).toArray) (by simp)).a5a (ptc X Y (smL 1) (mlF X Y)).toArray
 have kk7:Kept [g4] u7 (u7.setRow g4 (ptc X Y (smL 1) (mlF X Y)).toArray):=(Kept.refl [g4] u7).setRow (.inl (by simp)) _
 have k7:=hS7.k.a0r kk7 hl4.out
 clear kk7 hS7
 go_wp2_with fail
 exact a1k a0l rfl rfl b7 (a5m _ _ _ _) rfl ⟨rfl,k7⟩
def li(X:Nat→Nat):List Lit:=(fam 5 X).map fun(n:Nat)=>Lit.int .u64 (n:Int)
def lits(X Y Z T:Nat→Nat):List Lit:=li X ++ (li Y ++ (li Z ++ li T))
theorem wf64(n:Nat)(h:n < 18446744073709551616):(Lit.int .u64 (n:Int)).wf=true:=by
 simp [Lit.wf,IntKind.min,IntKind.max,IntKind.signed,IntKind.bits]
 omega
theorem kl_u(d n:Nat)(h:n < 18446744073709551616):Try.prog.keyLits (d + 1) 80 [.int .u64 (n:Int)]=some [.int .u64 (n:Int)]:=by
 unfold Program.keyLits
 rw [Try.underlying80]
 simp [wf64 n h]
theorem kl_a(d:Nat)(X:Nat→Nat)(h:Lim X):Try.prog.keyLits (d + 2) 81 (uv (fam 5 X))=some (li X):=by
 have hb:∀i,i < 5→X i < 18446744073709551616:=fun i hi=>by have:=h i hi;omega
 unfold Program.keyLits
 rw [Try.underlying81]
 have c1:Try.prog.cellsOf 81=5:=by kernel_rfl
 have c2:Try.prog.cellsOf 80=1:=by kernel_rfl
 simp only [c1,c2]
 simp [fam,List.range,List.range.loop,li,kl_u d _ (hb 0 (by omega)),kl_u d _ (hb 1 (by omega)),kl_u d _ (hb 2 (by omega)),kl_u d _ (hb 3 (by omega)),kl_u d _ (hb 4 (by omega))]
theorem kl_e(d:Nat)(X:Nat→Nat)(h:Lim X):Try.prog.keyLits (d + 3) 83 (uv (fam 5 X))=some (li X):=by
 unfold Program.keyLits
 rw [Try.underlying83]
 have c1:Try.prog.cellsOf 83=5:=by kernel_rfl
 have c2:Try.prog.cellsOf 81=5:=by kernel_rfl
 have hl:(uv (fam 5 X)).length=5:=by simp [a7a]
 have h5:=kl_a d X h
 simp only [c1,hl]
 simp [c2,List.take_of_length_le (Nat.le_of_eq hl),h5]
theorem kl_p(d:Nat)(X Y Z T:Nat→Nat)(hX:Lim X)(hY:Lim Y)(hZ:Lim Z)(hT:Lim T):Try.prog.keyLits (d + 4) 85 (ptc X Y Z T)=some (lits X Y Z T):=by
 unfold Program.keyLits
 rw [Try.underlying85]
 have c1:Try.prog.cellsOf 85=20:=by kernel_rfl
 have c2:Try.prog.cellsOf 83=5:=by kernel_rfl
 have hl:=c3u X Y Z T
 have l5:∀F,(uv (fam 5 F)).length=5:=a1v
 have e0:(ptc X Y Z T).take 5=uv (fam 5 X):=by unfold ptc;rw [List.take_left' (l5 X)]
 have e1:((ptc X Y Z T).drop 5).take 5=uv (fam 5 Y):=by unfold ptc;rw [List.drop_left' (l5 X),List.take_left' (l5 Y)]
 have e2:((ptc X Y Z T).drop 10).take 5=uv (fam 5 Z):=by unfold ptc;rw [←List.append_assoc,List.drop_left' (by rw [List.length_append,l5,l5]),List.take_left' (l5 Z)]
 have e3:((ptc X Y Z T).drop 15).take 5=uv (fam 5 T):=by unfold ptc;rw [←List.append_assoc,←List.append_assoc,List.drop_left' (by rw [List.length_append,List.length_append,l5,l5,l5]),List.take_of_length_le (Nat.le_of_eq (l5 T))]
 simp only [c1,hl]
 simp [lits,c2,e0,e1,e2,e3,kl_e d _ hX,kl_e d _ hY,kl_e d _ hZ,kl_e d _ hT]
theorem key_pt:Try.prog.keyTypeAt 10 85=true:=by kernel_rfl
theorem c1p(X Y Z T:Nat→Nat):(pv X Y Z T).formed Try.prog 85=true:=by kernel_rfl
theorem eq_pt{X Y Z T X' Y' Z' T':Nat→Nat}(hX:Lim X)(hY:Lim Y)(hZ:Lim Z)(hT:Lim T)(hX':Lim X')(hY':Lim Y')(hZ':Lim Z')(hT':Lim T')(W:World):∃r:Bool,(Op.equalIn 10000 85 (pv X Y Z T) (pv X' Y' Z' T')).run Try.prog W= .ok r W∧(r=true↔lits X Y Z T=lits X' Y' Z' T'):=
 run_equalIn_deep (P:=Try.prog) 9990 10 _ key_pt W 10 10 _ _ _ _ (c1p _ _ _ _) (c1p _ _ _ _) (kl_p 6 X Y Z T hX hY hZ hT) (kl_p 6 X' Y' Z' T' hX' hY' hZ' hT')
theorem c0w{X Y Z T X' Y' Z' T':Nat→Nat}(e:lits X Y Z T=lits X' Y' Z' T')(i:Nat)(hi:i < 5):X i=X' i∧Y i=Y' i∧Z i=Z' i∧T i=T' i:=by
 have g:∀k:Nat,(lits X Y Z T)[k]?=(lits X' Y' Z' T')[k]?:=fun k=>by rw [e]
 have h5:i=0∨i=1∨i=2∨i=3∨i=4:=by omega
 have g0:=g i
 have g1:=g (5 + i)
 have g2:=g (10 + i)
 have g3:=g (15 + i)
 rcases h5 with rfl | rfl | rfl | rfl | rfl <;> simp [lits,li,fam,List.range,List.range.loop]at g0 g1 g2 g3 <;> omega
theorem a9n:Lim a0j:=fun _ _=>by unfold a0j;omega
theorem d2o:Try.prog.built 85 []=some (ptc a0j a0j a0j a0j).toArray:=by kernel_rfl
end Go.Proofs.Ytdbngnlpafcogaa
