/-
  The curve: multiples of any point; sums of multiples of two.
  The curve: points of bytes.
  Numbers: primes, Fermat's theorem, a test that numbers are primes.
  The curve: plain laws of the field: inverses, roots.
  Numbers modulo 2^255 - 19: a field; the curve's sums.
  The curve's sums: they are defined everywhere, and stay on the curve.
  The curve's points are a group.
  The curve with its own d: points, multiples.
-/
import Derived.Test.YtdbngnlpafcogaaGreatZcCu10
import Derived.Test.YtdbngnlpafcogaaGreatZcCu2
set_option maxRecDepth 100000
namespace Go.Proofs.YtdbngnlpafcogaaGreat
open Go.RowKit Go.Mem Go.Txt
def mulQ(s:ByteArray)(p:P4)(X:Nat):P4:=if p.same baQ then baA (laQ s) X 8 else muA (a2o p kK) X 64
set_option maxHeartbeats 1600000 in
theorem d8u{s:ByteArray}(hs:Lad s){p:P4}(hp:p.Ok)(X:Nat)(hne:p.same baQ=true):MuC p X (baA (laQ s) X 8):=by
 intro w;have cb:=hjd b5c;have q:=c0u hp c7n;rw [hne]at q;have cc:=hjd (d7a hs X);clear hp hne hs;generalize baA (laQ s) X 8=r at *;generalize baQ=bq at *;go_enter Tryz.func32,Tryz.ntmps32;go_wp2_with (first
  | ((with_reducible refine a0q (o:=⟨some 2,_,_,_,_,_⟩) (v:=p.v) rfl (.tmp 0) rfl rfl ?_);intro g2 w2 m2)
  | ((with_reducible refine a0q (o:=⟨some 3,_,_,_,_,_⟩) (v:=ab (le X 32)) rfl (.tmp 1) rfl rfl ?_);intro g3 w3 m3)
  | ((with_reducible refine a0h (o:=⟨some 4,_,_,_,_,_⟩) rfl rfl a4e ?_);intro g4 w4 m4))
 have t0:=((((Pm.none w).kept m2.kept).cons m2.blk).kept m3.kept |>.cons m3.blk).kept m4.kept;have t:=hjd (show Pm w [(g4,72,pz.c.toArray),(g3,22,(bv (le X 32)).toArray),(g2,72,p.c.toArray)] w4 from t0.cons m4.blk);have hl4:=hjd (Nat.le_trans (m2.kept.a0g m3.kept).size m4.le);clear m2 m3 m4 t0;refine a6n (by kernel_rfl) [p.v,bq.v]
  (Pm w [(g4,72,pz.c.toArray),(g3,22,(bv (le X 32)).toArray),(g2,72,p.c.toArray)]) (by kernel_rfl) rfl rfl (by kernel_rfl) t.out.drew (fun u u' h hk=>h.kept hk) ?_ ?_
 ·refine⟨?_,?_,trivial⟩
  ·exact fun a' u K0 R hS hr ho h=>a0o a0l (.tmp 2) rfl ((ho 2 (by decide)).trans rfl) (hS.s (g2,72,p.c.toArray) (by simp)) p.size (h u (Kept.refl _ _))
  ·exact fun a' u K0 R hS hr ho h=>a0n rfl a6t (vs:=#[]) (by simp) (cb.out u) h
 intro u7 hS7;simp [a1f,List.range,List.range.loop,Act.put];have t:=hjd hS7;clear hS7;go_wp2_with (first
  | (with_reducible refine a0d (o:=⟨some 12,_,_,_,_,_⟩) a2u.row rfl (.tmp 3) rfl rfl (t.out.s (g3,22,(bv (le X 32)).toArray) (by simp)) (by simp [a0x]) ?_)
  | (go_at_call 91;(with_reducible refine(cc.out _).mono ?_);rintro e y1 ⟨rfl,kk⟩;replace t:=hjd (t.out.kept kk);clear kk)
  | ((with_reducible refine a0a (o:=⟨none,.store 72 (.tmp 4) (.tmp 13),_,_,_,_⟩) a0l rfl (.tmp 4) (.tmp 13) rfl rfl rfl (t.out.s (g4,72,pz.c.toArray) (by simp)) pz.size (P4.size _) (P4.one _) ?_);intro v9 b9 k9))
 exact a1m a0l rfl rfl b9 (P4.size _) rfl ⟨rfl,t.out.k.a0r k9 hl4.out⟩
theorem mul_c{s:ByteArray}(hs:Lad s){p:P4}(hp:p.Ok)(X:Nat):MuC p X (mulQ s p X):=by
 unfold mulQ
 cases h:p.same baQ with
 | true=>rw [if_pos rfl];exact d8u hs hp X h
 | false=>rw [if_neg (by simp)];exact c4k hp X h
def boA(f g:Nat→P4)(X Y:Nat):Nat→P4
 | 0=>f 0
 | k + 1=>plQ (plQ (dbN (boA f g X Y k) 4) (f (dgt X (63 - k))) kK) (g (dgt Y (63 - k))) kK
theorem c7u{f g:Nat→P4}(h:∀i,(f i).Ok)(h2:∀i,(g i).Ok)(X Y:Nat):∀k,(boA f g X Y k).Ok
 | 0=>h 0
 | k + 1=>b4f (b4f (b3t (c7u h h2 X Y k) 4) (h _) a4y) (h2 _) a4y
theorem d9v(f g:Nat→P4)(X Y m:Nat)(h:0 < m)(h2:m≤64):boA f g X Y (64 - (m - 1))=plQ (plQ (dbN (boA f g X Y (64 - m)) 4) (f (dgt X (m - 1))) kK) (g (dgt Y (m - 1))) kK:=by
 rw [show 64 - (m - 1)=(64 - m) + 1 from by omega,boA,show 63 - (64 - m)=m - 1 from by omega]
structure BoM (w0:World) (g3 g5 g6 g7 g8 g9:Nat) (X Y:Nat) (f g:Nat→P4) (u:World):Prop where
 n:Blk u g3 22 (bv (le X 32)).toArray
 m:Blk u g5 22 (bv (le Y 32)).toArray
 r:Blk u g6 72 pz.c.toArray
 k:Blk u g7 70 (uv (fam 5 kK)).toArray
 f:Blk u g8 146 (a3m f).toArray
 g:Blk u g9 146 (a3m g).toArray
 w:Kept [] w0 u
theorem BoM.kept{w0:World}{g3 g5 g6 g7 g8 g9:Nat}{X Y:Nat}{f g:Nat→P4}{u u':World}(h:BoM w0 g3 g5 g6 g7 g8 g9 X Y f g u)(hk:Kept [] u u'):BoM w0 g3 g5 g6 g7 g8 g9 X Y f g u':=⟨h.n.kept hk (by simp),h.m.kept hk (by simp),h.r.kept hk (by simp),h.k.kept hk (by simp),h.f.kept hk (by simp),h.g.kept hk (by simp),h.w.a0g hk⟩
theorem BoM.a8u{w0:World}{x g3 g5 g6 g7 g8 g9:Nat}{X Y:Nat}{f g:Nat→P4}{u u':World}(h:BoM w0 g3 g5 g6 g7 g8 g9 X Y f g u)(hk:Kept [x] u u')(d:g3≠x∧g5≠x∧g6≠x∧g7≠x∧g8≠x∧g9≠x∧w0.heap.size≤x):BoM w0 g3 g5 g6 g7 g8 g9 X Y f g u':=
 ⟨h.n.kept hk (by simpa using d.1),h.m.kept hk (by simpa using d.2.1),h.r.kept hk (by simpa using d.2.2.1),h.k.kept hk (by simpa using d.2.2.2.1),h.f.kept hk (by simpa using d.2.2.2.2.1),h.g.kept hk (by simpa using d.2.2.2.2.2.1),h.w.a0r hk d.2.2.2.2.2.2⟩
abbrev BoC(p:P4)(X Y:Nat)(r:P4):Prop:=∀W,Calls Tryz.prog 51 #[ab (le X 32),p.v,ab (le Y 32)] W fun e w'=>e= .returned r.v∧Kept [] W w'
set_option maxHeartbeats 3200000 in
theorem d8v{p:P4}(hp:p.Ok)(X Y:Nat):BoC p X Y (boA (a2o baQ kK) (a2o p kK) X Y 64):=by
 intro w;have hf:=b2s c7n a4y;have hg:=b2s hp a4y;have cb:=hjd b5c;have cd:=hjd b4m;have cr:=hjd (show∀W,Calls Tryz.prog 93 #[baQ.v,el kK] W fun e w'=>e= .returned (.agg (a3m (a2o baQ kK)).toArray)∧Kept [] W w' from b9m c7n a4y);have cs:=hjd (show∀W,Calls Tryz.prog 93 #[p.v,el kK] W fun e w'=>e= .returned (.agg (a3m (a2o p kK)).toArray)∧Kept [] W w' from b9m hp a4y);have cg:=hjd (b5g X);have ch:=hjd (b5g Y);have cm:=hjd (fun k j=>e5z (b3t (c7u hf hg X Y k) j))
 have cp:=hjd (show∀m,e5g (dbN (boA (a2o baQ kK) (a2o p kK) X Y (64 - m)) 4) (a2o baQ kK (dgt X (m - 1))) kK (plQ (dbN (boA (a2o baQ kK) (a2o p kK) X Y (64 - m)) 4) (a2o baQ kK (dgt X (m - 1))) kK)from fun m=>
  b3p (b3t (c7u hf hg X Y _) 4) (hf _) a4y)
 have cq:=hjd (show∀m,0 < m→m≤64→e5g (plQ (dbN (boA (a2o baQ kK) (a2o p kK) X Y (64 - m)) 4) (a2o baQ kK (dgt X (m - 1))) kK) (a2o p kK (dgt Y (m - 1))) kK (boA (a2o baQ kK) (a2o p kK) X Y (64 - (m - 1)))from fun m h h2=>by
  rw [d9v _ _ X Y m h h2];exact b3p (b4f (b3t (c7u hf hg X Y _) 4) (hf _) a4y) (hg _) a4y)
 have e0:∀f g:Nat→P4,boA f g X Y 0=f 0:=fun _ _=>rfl
 have e1:∀k:Nat,dbN (boA (a2o baQ kK) (a2o p kK) X Y k) 0=boA (a2o baQ kK) (a2o p kK) X Y k:=fun _=>rfl
 have e2:∀k j:Nat,dbN (boA (a2o baQ kK) (a2o p kK) X Y k) (j + 1)=dbQ (dbN (boA (a2o baQ kK) (a2o p kK) X Y k) j):=fun _ _=>rfl
 replace e0:=hjd e0;replace e1:=hjd e1;replace e2:=hjd e2;clear hf hg hp;generalize a2o p kK=g at *;generalize a2o baQ kK=f at *;generalize baQ=bq at *;go_enter Tryz.func51,Tryz.ntmps51;go_wp2_with (first
  | ((with_reducible refine a0q (o:=⟨some 3,_,_,_,_,_⟩) (v:=ab (le X 32)) rfl (.tmp 0) rfl rfl ?_);intro g3 w3 m3)
  | ((with_reducible refine a0q (o:=⟨some 4,_,_,_,_,_⟩) (v:=p.v) rfl (.tmp 1) rfl rfl ?_);intro g4 w4 m4)
  | ((with_reducible refine a0q (o:=⟨some 5,_,_,_,_,_⟩) (v:=ab (le Y 32)) rfl (.tmp 2) rfl rfl ?_);intro g5 w5 m5)
  | ((with_reducible refine a0h (o:=⟨some 6,_,_,_,_,_⟩) rfl rfl a4e ?_);intro g6 w6 m6;have hl6:=hjd (Nat.le_trans ((m3.kept.a0g m4.kept).a0g m5.kept).size m6.le))
  | (go_at_call 92;(with_reducible refine(cd.out _).mono ?_);rintro e y1 ⟨rfl,kk⟩;have t:=hjd ((show Pm w [(g6,72,pz.c.toArray),(g5,22,(bv (le Y 32)).toArray),(g4,72,p.c.toArray),(g3,22,(bv (le X 32)).toArray)] w6 from((((((((Pm.none w).kept m3.kept).cons m3.blk).kept m4.kept).cons m4.blk).kept m5.kept).cons m5.blk).kept m6.kept).cons m6.blk).kept kk);clear kk m3 m4 m5 m6)
  | ((with_reducible refine a0h (o:=⟨some 7,_,_,_,_,_⟩) rfl rfl a1b ?_);intro g7 w7 m7)
  | ((with_reducible refine a0a (o:=⟨none,.store 70 (.tmp 7) (.tmp 12),_,_,_,_⟩) a0c rfl (.tmp 7) (.tmp 12) rfl rfl rfl m7.blk rfl rfl (a0u _) ?_);intro v7 b7 k7;replace t:=hjd (t.out.put m7 b7 k7);clear m7 b7 k7))
 refine a2m (by kernel_rfl) [.val bq.v,.val (el kK),.val (.agg (a3m f).toArray),.val p.v,.val (el kK),.val (.agg (a3m g).toArray),.new 146 (.agg (a3m fun _=>pz).toArray),.new 146 (.agg (a3m fun _=>pz).toArray),.put 6 2 (a3m f).toArray,.put 7 5 (a3m g).toArray]
  (Pm w [(g7,70,(uv (fam 5 kK)).toArray),(g6,72,pz.c.toArray),(g5,22,(bv (le Y 32)).toArray),(g4,72,p.c.toArray),(g3,22,(bv (le X 32)).toArray)]) (by kernel_rfl) (by kernel_rfl) t.out.drew (fun u u' T hS hk hT=>t.out.fresh u u' T hS hk hT) ?_ ?_
 ·refine⟨?_,?_,?_,?_,?_,?_,⟨⟨_,rfl⟩,rfl,c1a⟩,⟨⟨_,rfl⟩,rfl,c1a⟩,?_,?_,trivial⟩
  ·exact⟨⟨_,rfl⟩,fun a' u K0 R hS hr ho h=>a0n rfl a6t (vs:=#[]) (by simp) (cb.out u) h⟩
  ·exact⟨⟨_,rfl⟩,fun a' u K0 R hS hr ho h=>a0o a0c (.tmp 7) rfl ((ho 7 (by decide)).trans rfl) (hS.s (g7,70,(uv (fam 5 kK)).toArray) (by simp)) rfl (h u (Kept.refl _ _))⟩
  ·refine⟨⟨_,rfl⟩,fun a' u K0 R hS hr ho h=>?_⟩;refine a0n rfl b5w (vs:=#[bq.v,el kK]) ?_ (cr.out u) h;have h0:=hr 0 bq.v 13 _ rfl rfl rfl ⟨⟨0,.data⟩,by simp,rfl,rfl⟩;have h1:=hr 1 (el kK) 14 _ rfl rfl rfl ⟨⟨1,.data⟩,by simp,rfl,rfl⟩;simp [Act.eval]at h0 h1 ⊢;exact⟨h0,h1⟩
  ·exact⟨⟨_,rfl⟩,fun a' u K0 R hS hr ho h=>a0o a0l (.tmp 4) rfl ((ho 4 (by decide)).trans rfl) (hS.s (g4,72,p.c.toArray) (by simp)) p.size (h u (Kept.refl _ _))⟩
  ·exact⟨⟨_,rfl⟩,fun a' u K0 R hS hr ho h=>a0o a0c (.tmp 7) rfl ((ho 7 (by decide)).trans rfl) (hS.s (g7,70,(uv (fam 5 kK)).toArray) (by simp)) rfl (h u (Kept.refl _ _))⟩
  ·refine⟨⟨_,rfl⟩,fun a' u K0 R hS hr ho h=>?_⟩;refine a0n rfl b5w (vs:=#[p.v,el kK]) ?_ (cs.out u) h;have h0:=hr 3 p.v 16 _ rfl rfl rfl ⟨⟨3,.data⟩,by simp,rfl,rfl⟩;have h1:=hr 4 (el kK) 17 _ rfl rfl rfl ⟨⟨4,.data⟩,by simp,rfl,rfl⟩;simp [Act.eval]at h0 h1 ⊢;exact⟨h0,h1⟩
  ·exact⟨rfl,⟨⟨6,.data⟩,by simp,rfl,rfl⟩,⟨⟨2,.data⟩,by simp,rfl,rfl⟩,_,_,_,_,_,_,_,_,rfl,rfl,rfl,rfl,rfl,rfl,rfl,c9x,by rw [show(Value.agg (a3m fun _=>pz).toArray).cells=(a3m fun _=>pz).toArray from rfl,List.size_toArray,a5v],by rw [List.size_toArray,a5v],b1o f⟩
  ·exact⟨rfl,⟨⟨7,.data⟩,by simp,rfl,rfl⟩,⟨⟨5,.data⟩,by simp,rfl,rfl⟩,_,_,_,_,_,_,_,_,rfl,rfl,rfl,rfl,rfl,rfl,rfl,c9x,by rw [show(Value.agg (a3m fun _=>pz).toArray).cells=(a3m fun _=>pz).toArray from rfl,List.size_toArray,a5v],by rw [List.size_toArray,a5v],b1o g⟩
 intro γ w9 hS hγ hne hput;have b8:=hput 8 6 2 _ _ _ rfl rfl;have b9:=hput 9 7 5 _ _ _ rfl rfl;have hf8:=hγ 6 _ _ rfl;have hf9:=hγ 7 _ _ rfl;generalize e8:γ 6=g8 at *;generalize e9:γ 7=g9 at *;simp [a1f,VK,List.range,List.range.loop,Act.put,e8,e9];replace t:=hjd (show Pm w [(g9,146,(a3m g).toArray),(g8,146,(a3m f).toArray),(g7,70,(uv (fam 5 kK)).toArray),(g6,72,pz.c.toArray),(g5,22,(bv (le Y 32)).toArray),(g4,72,p.c.toArray),(g3,22,(bv (le X 32)).toArray)] w9 from((hS).cons b8).cons b9);clear b8 b9 hput hne hγ hS e8 e9 hf8 hf9;go_wp2_with (first
  | (refine a1i (o:=⟨some 20,_,_,_,_,_⟩) a0l rfl (.tmp 19) rfl rfl ((t.out.s (g8,146,(a3m f).toArray) (by simp)).row (fun i=>P4.len _) (show 0 < 16 by omega)) (P4.len _) ?_)
  | ((with_reducible refine a0h (o:=⟨some 10,_,_,_,_,_⟩) rfl rfl a4e ?_);intro g10 w10 m10;have hl10:=hjd (Nat.le_trans t.out.k.size m10.le);have hn10:=hjd (fun p hp=>m10.ne (t.out.s p hp).lt);replace t:=hjd (t.out.kept m10.kept))
  | ((refine a0a (o:=⟨none,.store 72 (.tmp 10) (.tmp 20),_,_,_,_⟩) a0l rfl (.tmp 10) (.tmp 20) rfl rfl rfl m10.blk pz.size (P4.size _) (P4.one _) ?_);intro v8 b8 k8))
 have D:=hjd (show g3≠g10∧g5≠g10∧g6≠g10∧g7≠g10∧g8≠g10∧g9≠g10∧w.heap.size≤g10 from⟨hn10.out (g3,22,(bv (le X 32)).toArray) (by simp),hn10.out (g5,22,(bv (le Y 32)).toArray) (by simp),hn10.out (g6,72,pz.c.toArray) (by simp),hn10.out (g7,70,(uv (fam 5 kK)).toArray) (by simp),hn10.out (g8,146,(a3m f).toArray) (by simp),hn10.out (g9,146,(a3m g).toArray) (by simp),hl10.out⟩);have M:=hjd (BoM.a8u (show BoM w g3 g5 g6 g7 g8 g9 X Y f g w10 from⟨t.out.s (g3,22,(bv (le X 32)).toArray) (by simp),t.out.s (g5,22,(bv (le Y 32)).toArray) (by simp),t.out.s (g6,72,pz.c.toArray) (by simp),t.out.s (g7,70,(uv (fam 5 kK)).toArray) (by simp),t.out.s (g8,146,(a3m f).toArray) (by simp),t.out.s (g9,146,(a3m g).toArray) (by simp),t.out.k⟩) k8 D.out);clear t hn10 hl10 k8 m10 cr cs cb cd;replace b8:=hjd b8;go_loopg [11] 64 (fun fu i wk=>∃m:Nat,fu=m∧m≤64∧i= .int .i64 ((m:Int) - 1)∧Blk wk g10 72 (boA f g X Y (64 - m)).c.toArray∧BoM w g3 g5 g6 g7 g8 g9 X Y f g wk);case atStart=>exact⟨64,rfl,Nat.le_refl _,by go_num,by rw [Nat.sub_self,e0.out];exact b8.out,M.out⟩
 case round=>
  obtain⟨m,hf3,hm,rfl,hb,hM⟩:=hrel;have H:=hjd hb;have HM:=hjd hM;clear hb hM M b8;by_cases hm0:0 < m
  ·have hi0:(0:Int)≤(m:Int) - 1:=by omega
   have hi1:(1:Int)≤(m:Int):=by omega
   have cq0:=cq.out m hm0 hm;obtain⟨r3,hr3⟩:∃r3,r3=boA f g X Y (64 - (m - 1)):=⟨_,rfl⟩;rw [←hr3]at cq0;replace hr3:=hjd hr3;have cq:=hjd cq0;clear cq0;have cp:=hjd (cp.out m);have cm:=hjd (cm.out (64 - m));have e1:=hjd (e1.out (64 - m));have e2:=hjd (e2.out (64 - m));generalize boA f g X Y (64 - m)=r at *;go_wp2_with fail;go_loopg [25] 4 (fun fu i wk=>∃j:Nat,j≤4∧fu + j=4∧i= .int .i64 (j:Int)∧Blk wk g10 72 (dbN r j).c.toArray∧BoM w g3 g5 g6 g7 g8 g9 X Y f g wk);case atStart=>exact⟨0,Nat.zero_le _,rfl,rfl,by rw [e1.out];exact H.out,HM.out⟩
   case round=>
    obtain⟨j,hj,hf4,rfl,hb,hM⟩:=hrel;have H:=hjd hb;have HM:=hjd hM;clear hb hM;by_cases hlt:j < 4
    ·have cm:=hjd (cm.out j);rw [←e2.out]at cm;go_wp2_with (first
      | (with_reducible refine a0d (o:=⟨some 27,_,_,_,_,_⟩) a0l rfl (.tmp 10) rfl rfl H.out (P4.size _) ?_)
      | (go_at_call 94;(with_reducible refine(cm.out _).mono ?_);rintro e y1 ⟨rfl,kk⟩;have H1:=hjd (H.out.kept kk (by simp)))
      | ((with_reducible refine a0a (o:=⟨none,.store 72 (.tmp 10) (.tmp 28),_,_,_,_⟩) a0l rfl (.tmp 10) (.tmp 28) rfl rfl rfl H1.out (P4.size _) (P4.size _) (P4.one _) ?_);intro v9 b9 k9))
     have HM:=hjd (BoM.a8u (HM.out.kept kk) k9 D.out);clear kk k9 H1;go_roundg (4 - (j + 1));case measure=>omega
     case rel=>exact⟨j + 1,by omega,by omega,by go_num,b9,HM.out⟩
    ·obtain rfl:j=4:=by omega
     have hm1:((m - 1:Nat):Int)=(m:Int) - 1:=by omega
     have cg:=hjd (show∀W,Calls Tryz.prog 96 #[ab (le X 32),.int .i64 ((m:Int) - 1)] W fun e w'=>e= .returned (.int .u8 ((dgt X (m - 1):Nat):Int))∧Kept [] W w' from by rw [←hm1];exact cg.out (m - 1) (by omega));have ch:=hjd (show∀W,Calls Tryz.prog 96 #[ab (le Y 32),.int .i64 ((m:Int) - 1)] W fun e w'=>e= .returned (.int .u8 ((dgt Y (m - 1):Nat):Int))∧Kept [] W w' from by rw [←hm1];exact ch.out (m - 1) (by omega));have hd:=d5p X (m - 1);have hd2:=d5p Y (m - 1);generalize dbN r 4=s at *;generalize dgt X (m - 1)=d at *;generalize dgt Y (m - 1)=d2 at *;generalize plQ s (f d) kK=r2 at *;clear hm1 e1 e2 cm;go_wp2_with fail;have hS0:=hjd (And.intro H.out.drew (HM.out.kept (Kept.refl [] _).drew));refine a6n (by kernel_rfl) [s.v,ab (le X 32),.int .i64 ((m:Int) - 1),.int .u8 ((d:Nat):Int),.pointer (some ⟨g8,20 * d,none⟩),(f d).v,el kK,r2.v,ab (le Y 32),.int .i64 ((m:Int) - 1),.int .u8 ((d2:Nat):Int),.pointer (some ⟨g9,20 * d2,none⟩),(g d2).v,el kK,r3.v]
      (fun u=>Blk u g10 72 s.c.toArray∧BoM w g3 g5 g6 g7 g8 g9 X Y f g u) (by kernel_rfl) rfl rfl (by kernel_rfl) hS0.out (fun u u' h hk=>⟨h.1.kept hk (by simp),h.2.kept hk⟩) ?_ ?_
     ·refine⟨?_,?_,?_,?_,?_,?_,?_,?_,?_,?_,?_,?_,?_,?_,?_,trivial⟩
      ·exact fun a' u K0 R hS hr ho h=>a0o a0l (.tmp 10) rfl ((ho 10 (by decide)).trans rfl) hS.1 s.size (h u (Kept.refl _ _))
      ·exact fun a' u K0 R hS hr ho h=>a0o a2u.row (.tmp 3) rfl ((ho 3 (by decide)).trans rfl) hS.2.n (by simp [a0x]) (h u (Kept.refl _ _))
      ·exact fun a' u K0 R hS hr ho h=>wp_move (.tmp 11) rfl ((ho 11 (by decide)).trans rfl) (h u (Kept.refl _ _))
      ·refine fun a' u K0 R hS hr ho h=>a0n rfl a9j (vs:=#[ab (le X 32),.int .i64 ((m:Int) - 1)]) ?_ (cg.out u) h
       have h0:=hr 1 (ab (le X 32)) 31 _ rfl rfl rfl ⟨⟨1,.data⟩,by simp,rfl,rfl⟩;have h1:=hr 2 (.int .i64 ((m:Int) - 1)) 32 _ rfl rfl rfl ⟨⟨2,.data⟩,by simp,rfl,rfl⟩;simp [Act.eval]at h0 h1 ⊢;exact⟨h0,h1⟩
      ·exact fun a' u K0 R hS hr ho h=>b9z d7d (.tmp 8) (.tmp 33) rfl ((ho 8 (by decide)).trans rfl) (hr 3 (.int .u8 ((d:Nat):Int)) 33 _ rfl rfl rfl ⟨⟨3,.data⟩,by simp,rfl,rfl⟩) hd (h u (Kept.refl _ _))
      ·exact fun a' u K0 R hS hr ho h=>a2d a0l (.tmp 34) rfl (hr 4 _ 34 _ rfl rfl rfl ⟨⟨4,.data⟩,by simp,rfl,rfl⟩) (hS.2.f.row (fun i=>P4.len _) hd) (P4.len _) (h u (Kept.refl _ _))
      ·exact fun a' u K0 R hS hr ho h=>a0o a0c (.tmp 7) rfl ((ho 7 (by decide)).trans rfl) hS.2.k rfl (h u (Kept.refl _ _))
      ·refine fun a' u K0 R hS hr ho h=>a0n rfl a8h (vs:=#[s.v,(f d).v,el kK]) ?_ (cp.out u) h
       have h0:=hr 0 s.v 30 _ rfl rfl rfl ⟨⟨0,.data⟩,by simp,rfl,rfl⟩;have h1:=hr 5 (f d).v 35 _ rfl rfl rfl ⟨⟨5,.data⟩,by simp,rfl,rfl⟩;have h2:=hr 6 (el kK) 36 _ rfl rfl rfl ⟨⟨6,.data⟩,by simp,rfl,rfl⟩;simp [Act.eval]at h0 h1 h2 ⊢;exact⟨h0,h1,h2⟩
      ·exact fun a' u K0 R hS hr ho h=>a0o a2u.row (.tmp 5) rfl ((ho 5 (by decide)).trans rfl) hS.2.m (by simp [a0x]) (h u (Kept.refl _ _))
      ·exact fun a' u K0 R hS hr ho h=>wp_move (.tmp 11) rfl ((ho 11 (by decide)).trans rfl) (h u (Kept.refl _ _))
      ·refine fun a' u K0 R hS hr ho h=>a0n rfl a9j (vs:=#[ab (le Y 32),.int .i64 ((m:Int) - 1)]) ?_ (ch.out u) h
       have h0:=hr 8 (ab (le Y 32)) 38 _ rfl rfl rfl ⟨⟨8,.data⟩,by simp,rfl,rfl⟩;have h1:=hr 9 (.int .i64 ((m:Int) - 1)) 39 _ rfl rfl rfl ⟨⟨9,.data⟩,by simp,rfl,rfl⟩;simp [Act.eval]at h0 h1 ⊢;exact⟨h0,h1⟩
      ·exact fun a' u K0 R hS hr ho h=>b9z d7d (.tmp 9) (.tmp 40) rfl ((ho 9 (by decide)).trans rfl) (hr 10 (.int .u8 ((d2:Nat):Int)) 40 _ rfl rfl rfl ⟨⟨10,.data⟩,by simp,rfl,rfl⟩) hd2 (h u (Kept.refl _ _))
      ·exact fun a' u K0 R hS hr ho h=>a2d a0l (.tmp 41) rfl (hr 11 _ 41 _ rfl rfl rfl ⟨⟨11,.data⟩,by simp,rfl,rfl⟩) (hS.2.g.row (fun i=>P4.len _) hd2) (P4.len _) (h u (Kept.refl _ _))
      ·exact fun a' u K0 R hS hr ho h=>a0o a0c (.tmp 7) rfl ((ho 7 (by decide)).trans rfl) hS.2.k rfl (h u (Kept.refl _ _))
      ·refine fun a' u K0 R hS hr ho h=>a0n rfl a8h (vs:=#[r2.v,(g d2).v,el kK]) ?_ (cq.out u) h
       have h0:=hr 7 r2.v 37 _ rfl rfl rfl ⟨⟨7,.data⟩,by simp,rfl,rfl⟩;have h1:=hr 12 (g d2).v 42 _ rfl rfl rfl ⟨⟨12,.data⟩,by simp,rfl,rfl⟩;have h2:=hr 13 (el kK) 43 _ rfl rfl rfl ⟨⟨13,.data⟩,by simp,rfl,rfl⟩;simp [Act.eval]at h0 h1 h2 ⊢;exact⟨h0,h1,h2⟩
     intro u9 hS9;simp [a1f,List.range,List.range.loop,Act.put];refine a5k a0l (.tmp 10) (.tmp 44) rfl rfl rfl hS9.1 s.size r3.size r3.one ?_;simp [Act.put];have b9:=hS9.1.a5i r3.c.toArray;have kk9:Kept [g10] u9 (u9.setRow g10 r3.c.toArray):=(Kept.refl [g10] u9).setRow (.inl (by simp)) _;have HM:=hjd (BoM.a8u hS9.2 kk9 D.out);clear kk9 hS9 hS0;go_wp2_with fail;go_roundg (m - 1);case measure=>omega
     case rel=>exact⟨m - 1,rfl,by omega,by go_num,by rw [←hr3.out];exact b9,HM.out⟩
  ·obtain rfl:m=0:=by omega
   clear cm e1 e2 cp cq cg ch;rw [show 64 - 0=64 from rfl]at H;go_wp2_with (first
    | (with_reducible refine a0d (o:=⟨some 45,_,_,_,_,_⟩) a0l rfl (.tmp 10) rfl rfl H.out (P4.size _) ?_)
    | ((with_reducible refine a0a (o:=⟨none,.store 72 (.tmp 6) (.tmp 45),_,_,_,_⟩) a0l rfl (.tmp 6) (.tmp 45) rfl rfl rfl HM.out.r pz.size (P4.size _) (P4.one _) ?_);intro v9 b9 k9))
   exact a1m a0l rfl rfl b9 (P4.size _) rfl ⟨rfl,HM.out.w.a0r k9 hl6.out⟩
end Go.Proofs.YtdbngnlpafcogaaGreat
namespace Go.Proofs.YtdbngnlpafcogaaGreat
open Go.RowKit Go.Mem Go.Txt
section
variable {P:Program} {w:World} {o:Oper} {a:Act} {C:Act→World→Prop} {R:Exit→Act→World→Prop}
theorem wp_assign(x:Operand)(ho:o.op= .assign x){v:Value}(hx:a.eval x=v)(h:C (a.put o.dst v) w):o.wp P a w C R:=by
 unfold Oper.wp execOp;simp only [ho,hx,Sem.run_pure];exact h
theorem a3y(x:Operand)(i:Nat)(ho:o.op= .extract x i){xs:Array Value}(hx:a.eval x= .tuple xs){v:Value}(hv:xs[i]?=some v)(h:C (a.put o.dst v) w):o.wp P a w C R:=by
 unfold Oper.wp execOp;simp [ho,hx,Instr.extract,hv];exact h
end
theorem a5w(xs:Array Value)(w:World):(callFunc 115 xs).run Tryz.prog w= .ok (.enter 115 xs) w:=enters_of (c:=_) Tryz.func115 (by kernel_rfl) rfl xs w
theorem c0v(xs:Array Value)(w:World):(callFunc 114 xs).run Tryz.prog w= .ok (.enter 114 xs) w:=enters_of (c:=_) Tryz.func114 (by kernel_rfl) rfl xs w
theorem aff_c{A B:Nat→Nat}(hA:Lim A)(hB:Lim B):∀W,Calls Tryz.prog 89 #[el A,el B] W fun e w'=>e= .returned (afQ A B).v∧Kept [] W w':=b0d A B hA hB
def dcY(X:Nat):Nat→Nat:=b2w (le (X % a4k) 32)
def dcU(X:Nat):Nat→Nat:=suF (mlF (dcY X) (dcY X)) (smL 1)
def dcV(X:Nat):Nat→Nat:=adF (mlF (mlF (dcY X) (dcY X)) kD) (smL 1)
def dcN(X:Nat):Bool:=e1r (le (X % a4k) 32)
def dcO(X:Nat):Bool:=decide (128≤c31 X)
def dcR(X:Nat):Nat→Nat:=rtF (dcU X) (dcV X)
def dcZ(X:Nat):Bool:=le (fv (dcR X) % PP) 32 == a0m 32
def b3a(X:Nat):Bool:=dcN X && (rtB (dcU X) (dcV X) && !(dcO X && dcZ X))
def dcQ(X:Nat):P4:=if b3a X then afQ (if dcO X then suF (smL 0) (dcR X)else dcR X) (dcY X)else pz
theorem a1g(X:Nat):Lim (dcY X):=a3q _
theorem a9h(X:Nat):Lim (dcU X):=a1h (a0i (a1g X) (a1g X)) (a2j 1 (by omega))
theorem a8y(X:Nat):Lim (dcV X):=a0v (a0i (a0i (a1g X) (a1g X)) a7w) (a2j 1 (by omega))
theorem e0j{U V:Nat→Nat}(hU:Lim U)(hV:Lim V):Lim (rtF U V):=by
 have hX:=d5a hU hV;unfold rtF;split
 ·split
  ·exact a1h a7l hX
  ·exact hX
 ·exact a7l
theorem b3h(X:Nat):Lim (dcR X):=e0j (a9h X) (a8y X)
theorem a4b(X:Nat):c31 (X % a4k)=c31 X % 128∧X % d1k=X % a4k % d1k:=by
 unfold c31 d1k a4k;omega
theorem b5a(X:Nat)(h:128≤c31 X):((c31 X:Nat):Int) / 2 ^ 7=1:=(shr7 _ (a9m X)).2 h
theorem c5r(X:Nat)(h:¬128≤c31 X):((c31 X:Nat):Int) / 2 ^ 7=0:=by
 have h0:¬(((c31 X:Nat):Int) / 2 ^ 7=1):=fun e=>h ((shr7 _ (a9m X)).1 e)
 have h1:=a9m X;omega
theorem Pm.b0s{w0:World}{g:Nat}{L:List (Nat × TypeId × Array Value)}{u u2:World}{t:TypeId}{cs2:Array Value}(h:Pm w0 L u)(hn:∀p∈L,p.1≠g)(hl:w0.heap.size≤g)(b:Blk u2 g t cs2)(k:Kept [g] u u2):Pm w0 ((g,t,cs2) :: L) u2:=
 Pm.cons ⟨fun p hp=>(h.s p hp).kept k (by simpa using hn p hp),h.k.a0r k hl⟩ b
def dcE(X:Nat):Nat:=if b3a X then 0 else 50
abbrev DeC(X:Nat)(r:P4)(e:Nat):Prop:=∀W,Calls Tryz.prog 48 #[ab (le X 32)] W fun e' w'=>e'= .returned (.tuple #[r.v,.int .i64 (e:Int)])∧Kept [] W w'
set_option maxHeartbeats 3200000 in
theorem e5l(X:Nat)(hn:dcN X=false)(ho:128≤c31 X):∀W,Calls Tryz.prog 48 #[ab (le X 32)] W fun e' w'=>e'= .returned (.tuple #[pz.v,.int .i64 50])∧Kept [] W w':=by
 intro w;have hsh:=b5a X ho;have hsh2:=hsh;rw [show(2:Int) ^ 7=128 from rfl]at hsh2;clear ho;have e3:=b5v _ (a9m X);rw [←(a4b X).1]at e3;have e4:=hjd (a4b X).2;have cn:=hjd (show∀W,Calls Tryz.prog 113 #[ab (le (X % a4k) 32)] W fun e w'=>e= .returned (.tuple #[el (dcY X),.bool (dcN X)])∧Kept [] W w' from a7e _ (a0x _ _));rw [hn]at cn;clear hn;have hl:(bv (le (X % a4k) 32)).length=32:=by simp [a0x]
 replace hl:=hjd hl;generalize X % a4k=X2 at *;generalize dcY X=Y at *;go_enter Tryz.func48,Tryz.ntmps48;go_wp2_with (first
  | ((with_reducible refine a0q (o:=⟨some 1,_,_,_,_,_⟩) (v:=ab (le X 32)) rfl (.tmp 0) rfl rfl ?_);intro g1 w1 m1)
  | ((with_reducible refine a0h (o:=⟨some 2,_,_,_,_,_⟩) rfl rfl a4e ?_);intro g2 w2 m2;have B1:=hjd (show Blk w2 g1 22 (bv (le X 32)).toArray from m1.blk.kept m2.kept (by simp));have D2:=hjd (m2.ne m1.blk.lt);have q1:=Blk.c3d B1.out;have q2:=B1.out.frozen 31;have C1:=hjd (Blk.c1p B1.out e4.out);have KC:=hjd ((Kept.refl [g1] w2).setCell (p:=⟨g1,31,none⟩) (.inl (by simp)) (.int .u8 ((c31 X2:Nat):Int)));have K2:=hjd ((m1.kept.a0g m2.kept).a0r KC.out m1.le);have B2:=hjd (show Blk _ g2 72 pz.c.toArray from m2.blk.kept KC.out (by simpa using fun e=>D2.out e.symm));have hl2:=hjd (Nat.le_trans m1.kept.size m2.le);clear m1 m2 KC)
  | ((refine a0t (o:=⟨some 19,_,_,_,_,_⟩) a2u rfl (.tmp 1) rfl rfl C1.out hl.out ?_);have t:=hjd (((Pm.mk (w0:=w) (L:=[]) (fun _ h=>absurd h (by simp)) K2.out).cons C1.out).cons B2.out);clear q1 q2 K2 B2)
  | (go_at_call 113;(with_reducible refine(cn.out _).mono ?_);rintro e y1 ⟨rfl,kk⟩;replace t:=hjd (t.out.kept kk);clear kk)
  | ((with_reducible refine a0h (o:=⟨some 5,_,_,_,_,_⟩) rfl rfl a1b ?_);intro g5 w5 m5)
  | ((with_reducible refine a0a (o:=⟨none,.store 70 (.tmp 5) (.tmp 21),_,_,_,_⟩) a0c rfl (.tmp 5) (.tmp 21) rfl rfl rfl m5.blk rfl rfl (a0u _) ?_);intro v5 b5 k5;replace t:=hjd (t.out.put m5 b5 k5);clear m5 b5 k5)
  | (with_reducible refine a0y (o:=⟨some 25,_,_,_,_,_⟩) rfl rfl a7b ?_)
  | ((with_reducible refine a0a (o:=⟨none,.store 72 (.tmp 2) (.tmp 25),_,_,_,_⟩) a0l rfl (.tmp 2) (.tmp 25) rfl rfl rfl (t.out.s (g2,72,pz.c.toArray) (by simp)) pz.size pz.size pz.one ?_);intro v9 b9 k9))
 exact a1j a0l rfl rfl b9 pz.size rfl ⟨rfl,t.out.k.a0r k9 hl2.out⟩
set_option maxHeartbeats 3200000 in
theorem d9d(X:Nat)(hn:dcN X=false)(ho:¬128≤c31 X):∀W,Calls Tryz.prog 48 #[ab (le X 32)] W fun e' w'=>e'= .returned (.tuple #[pz.v,.int .i64 50])∧Kept [] W w':=by
 intro w;have hsh:=c5r X ho;have hsh2:=hsh;rw [show(2:Int) ^ 7=128 from rfl]at hsh2;clear ho;have e3:=b5v _ (a9m X);rw [←(a4b X).1]at e3;have e4:=hjd (a4b X).2;have cn:=hjd (show∀W,Calls Tryz.prog 113 #[ab (le (X % a4k) 32)] W fun e w'=>e= .returned (.tuple #[el (dcY X),.bool (dcN X)])∧Kept [] W w' from a7e _ (a0x _ _));rw [hn]at cn;clear hn;have hl:(bv (le (X % a4k) 32)).length=32:=by simp [a0x]
 replace hl:=hjd hl;generalize X % a4k=X2 at *;generalize dcY X=Y at *;go_enter Tryz.func48,Tryz.ntmps48;go_wp2_with (first
  | ((with_reducible refine a0q (o:=⟨some 1,_,_,_,_,_⟩) (v:=ab (le X 32)) rfl (.tmp 0) rfl rfl ?_);intro g1 w1 m1)
  | ((with_reducible refine a0h (o:=⟨some 2,_,_,_,_,_⟩) rfl rfl a4e ?_);intro g2 w2 m2;have B1:=hjd (show Blk w2 g1 22 (bv (le X 32)).toArray from m1.blk.kept m2.kept (by simp));have D2:=hjd (m2.ne m1.blk.lt);have q1:=Blk.c3d B1.out;have q2:=B1.out.frozen 31;have C1:=hjd (Blk.c1p B1.out e4.out);have KC:=hjd ((Kept.refl [g1] w2).setCell (p:=⟨g1,31,none⟩) (.inl (by simp)) (.int .u8 ((c31 X2:Nat):Int)));have K2:=hjd ((m1.kept.a0g m2.kept).a0r KC.out m1.le);have B2:=hjd (show Blk _ g2 72 pz.c.toArray from m2.blk.kept KC.out (by simpa using fun e=>D2.out e.symm));have hl2:=hjd (Nat.le_trans m1.kept.size m2.le);clear m1 m2 KC)
  | ((refine a0t (o:=⟨some 19,_,_,_,_,_⟩) a2u rfl (.tmp 1) rfl rfl C1.out hl.out ?_);have t:=hjd (((Pm.mk (w0:=w) (L:=[]) (fun _ h=>absurd h (by simp)) K2.out).cons C1.out).cons B2.out);clear q1 q2 K2 B2)
  | (go_at_call 113;(with_reducible refine(cn.out _).mono ?_);rintro e y1 ⟨rfl,kk⟩;replace t:=hjd (t.out.kept kk);clear kk)
  | ((with_reducible refine a0h (o:=⟨some 5,_,_,_,_,_⟩) rfl rfl a1b ?_);intro g5 w5 m5)
  | ((with_reducible refine a0a (o:=⟨none,.store 70 (.tmp 5) (.tmp 21),_,_,_,_⟩) a0c rfl (.tmp 5) (.tmp 21) rfl rfl rfl m5.blk rfl rfl (a0u _) ?_);intro v5 b5 k5;replace t:=hjd (t.out.put m5 b5 k5);clear m5 b5 k5)
  | (with_reducible refine a0y (o:=⟨some 25,_,_,_,_,_⟩) rfl rfl a7b ?_)
  | ((with_reducible refine a0a (o:=⟨none,.store 72 (.tmp 2) (.tmp 25),_,_,_,_⟩) a0l rfl (.tmp 2) (.tmp 25) rfl rfl rfl (t.out.s (g2,72,pz.c.toArray) (by simp)) pz.size pz.size pz.one ?_);intro v9 b9 k9))
 exact a1j a0l rfl rfl b9 pz.size rfl ⟨rfl,t.out.k.a0r k9 hl2.out⟩
set_option maxHeartbeats 3200000 in
theorem e0o(X:Nat)(hn:dcN X=true)(ho:128≤c31 X)(hr:rtB (dcU X) (dcV X)=false):∀W,Calls Tryz.prog 48 #[ab (le X 32)] W fun e' w'=>e'= .returned (.tuple #[pz.v,.int .i64 50])∧Kept [] W w':=by
 intro w;have hsh:=b5a X ho;have hsh2:=hsh;rw [show(2:Int) ^ 7=128 from rfl]at hsh2;clear ho;have e3:=b5v _ (a9m X);rw [←(a4b X).1]at e3;have e4:=hjd (a4b X).2;have cn:=hjd (show∀W,Calls Tryz.prog 113 #[ab (le (X % a4k) 32)] W fun e w'=>e= .returned (.tuple #[el (dcY X),.bool (dcN X)])∧Kept [] W w' from a7e _ (a0x _ _));rw [hn]at cn;have cm:=hjd (b1i (a1g X) (a1g X));have c1:=hjd (show∀W,Calls Tryz.prog 114 #[.int .u64 1] W fun e w'=>e= .returned (el (smL 1))∧Kept [] W w' from b8c 1 (by omega));have cu:=hjd (show SuC (mlF (dcY X) (dcY X)) (smL 1) (dcU X)from c7h (a0i (a1g X) (a1g X)) (a2j 1 (by omega)));have cd:=hjd b5o;have cd2:=hjd (b1i (a0i (a1g X) (a1g X)) a7w);have cv:=hjd (show AdC (mlF (mlF (dcY X) (dcY X)) kD) (smL 1) (dcV X)from c6k (a0i (a0i (a1g X) (a1g X)) a7w) (a2j 1 (by omega)));have cr:=hjd (show∀W,Calls Tryz.prog 115 #[el (dcU X),el (dcV X)] W fun e w'=>e= .returned (.tuple #[el (dcR X),.bool (rtB (dcU X) (dcV X))])∧Kept [] W w' from b2p _ _ (a9h X) (a8y X));rw [hr]at cr;clear hn hr;have hl:(bv (le (X % a4k) 32)).length=32:=by simp [a0x]
 replace hl:=hjd hl;generalize X % a4k=X2 at *;generalize dcR X=R at *;generalize dcU X=U at *;generalize dcV X=V at *;generalize mlF (mlF (dcY X) (dcY X)) kD=SD at *;generalize mlF (dcY X) (dcY X)=S at *;generalize kD=KD at *;generalize smL 1=O1 at *;generalize dcY X=Y at *;go_enter Tryz.func48,Tryz.ntmps48;go_wp2_with (first
  | ((with_reducible refine a0q (o:=⟨some 1,_,_,_,_,_⟩) (v:=ab (le X 32)) rfl (.tmp 0) rfl rfl ?_);intro g1 w1 m1)
  | ((with_reducible refine a0h (o:=⟨some 2,_,_,_,_,_⟩) rfl rfl a4e ?_);intro g2 w2 m2;have B1:=hjd (show Blk w2 g1 22 (bv (le X 32)).toArray from m1.blk.kept m2.kept (by simp));have D2:=hjd (m2.ne m1.blk.lt);have q1:=Blk.c3d B1.out;have q2:=B1.out.frozen 31;have C1:=hjd (Blk.c1p B1.out e4.out);have KC:=hjd ((Kept.refl [g1] w2).setCell (p:=⟨g1,31,none⟩) (.inl (by simp)) (.int .u8 ((c31 X2:Nat):Int)));have K2:=hjd ((m1.kept.a0g m2.kept).a0r KC.out m1.le);have B2:=hjd (show Blk _ g2 72 pz.c.toArray from m2.blk.kept KC.out (by simpa using fun e=>D2.out e.symm));have hl2:=hjd (Nat.le_trans m1.kept.size m2.le);clear m1 m2 KC)
  | ((refine a0t (o:=⟨some 19,_,_,_,_,_⟩) a2u rfl (.tmp 1) rfl rfl C1.out hl.out ?_);have t:=hjd (((Pm.mk (w0:=w) (L:=[]) (fun _ h=>absurd h (by simp)) K2.out).cons C1.out).cons B2.out);clear q1 q2 K2 B2)
  | (go_at_call 113;(with_reducible refine(cn.out _).mono ?_);rintro e y1 ⟨rfl,kk⟩;replace t:=hjd (t.out.kept kk);clear kk)
  | ((with_reducible refine a0h (o:=⟨some 5,_,_,_,_,_⟩) rfl rfl a1b ?_);intro g5 w5 m5)
  | ((with_reducible refine a0a (o:=⟨none,.store 70 (.tmp 5) (.tmp 21),_,_,_,_⟩) a0c rfl (.tmp 5) (.tmp 21) rfl rfl rfl m5.blk rfl rfl (a0u _) ?_);intro v5 b5 k5;replace t:=hjd (t.out.put m5 b5 k5);clear m5 b5 k5)
  | (with_reducible refine a0d (o:=⟨some 26,_,_,_,_,_⟩) a0c rfl (.tmp 5) rfl rfl (t.out.s (g5,70,(uv (fam 5 Y)).toArray) (by simp)) rfl ?_)
  | (with_reducible refine a0d (o:=⟨some 27,_,_,_,_,_⟩) a0c rfl (.tmp 5) rfl rfl (t.out.s (g5,70,(uv (fam 5 Y)).toArray) (by simp)) rfl ?_)
  | (go_at_call 99;(with_reducible refine(cm.out _).mono ?_);rintro e y1 ⟨rfl,kk⟩;replace t:=hjd (t.out.kept kk);clear kk)
  | (go_at_call 114;(with_reducible refine(c1.out _).mono ?_);rintro e y1 ⟨rfl,kk⟩;replace t:=hjd (t.out.kept kk);clear kk)
  | ((with_reducible refine a0h (o:=⟨some 7,_,_,_,_,_⟩) rfl rfl a1b ?_);intro g7 w7 m7;have N7:=hjd (fun p hp=>m7.ne (t.out.s p hp).lt);have L7:=hjd (Nat.le_trans t.out.k.size m7.le);have T7:=hjd (t.out.kept m7.kept))
  | ((with_reducible refine a0h (o:=⟨some 8,_,_,_,_,_⟩) rfl rfl a1b ?_);intro g8 w8 m8;have N8:=hjd (fun p hp=>m8.ne (T7.out.s p hp).lt);have D8:=hjd (m8.ne m7.blk.lt);have L8:=hjd (Nat.le_trans T7.out.k.size m8.le);have T8:=hjd (T7.out.kept m8.kept);have A7:=hjd (m7.blk.kept m8.kept (by simp)))
  | ((with_reducible refine a0a (o:=⟨none,.store 70 (.tmp 7) (.tmp 28),_,_,_,_⟩) a0c rfl (.tmp 7) (.tmp 28) rfl rfl rfl A7.out rfl rfl (a0u _) ?_);intro v7 b7 k7;have A8:=hjd (m8.blk.kept k7 (by simpa using fun e=>D8.out e.symm));have T9:=hjd (Pm.b0s T8.out N7.out L7.out b7 k7);clear T7 T8)
  | ((with_reducible refine a0a (o:=⟨none,.store 70 (.tmp 8) (.tmp 29),_,_,_,_⟩) a0c rfl (.tmp 8) (.tmp 29) rfl rfl rfl A8.out rfl rfl (a0u _) ?_);intro v8 b8 k8;replace t:=hjd (Pm.b0s T9.out (fun p hp=>(List.mem_cons.1 hp).elim (fun e=>by subst e;exact D8.out) (N8.out p)) L8.out b8 k8)))
 clear T9 N7 L7 N8 D8 L8 A7 A8 b7 k7 b8 k8 m7 m8;refine a2m (by kernel_rfl) [.val (el S),.val (el O1),.val (el U),.val (el S),.val (el KD),.val (el SD),.val (el O1),.val (el V),.val (.tuple #[el R,.bool false]),.val (.tuple #[el R,.bool false]),.val (el R),.val (.bool false),.new 70 (el a0j),.put 12 10 (uv (fam 5 R)).toArray,.val (.bool false)]
  (Pm w [(g8,70,(uv (fam 5 O1)).toArray),(g7,70,(uv (fam 5 S)).toArray),(g5,70,(uv (fam 5 Y)).toArray),(g2,72,pz.c.toArray),(g1,22,(bv (le X2 32)).toArray)]) (by kernel_rfl) (by kernel_rfl) t.out.drew (fun u u' T hS hk hT=>t.out.fresh u u' T hS hk hT) ?_ ?_
 ·refine⟨?_,?_,?_,?_,?_,?_,?_,?_,?_,?_,?_,?_,⟨⟨_,rfl⟩,rfl,a1b⟩,?_,?_,trivial⟩
  ·exact⟨⟨_,rfl⟩,fun a' u K0 R hS hr ho h=>a0o a0c (.tmp 7) rfl ((ho 7 (by decide)).trans rfl) (hS.s (g7,70,(uv (fam 5 S)).toArray) (by simp)) rfl (h u (Kept.refl _ _))⟩
  ·exact⟨⟨_,rfl⟩,fun a' u K0 R hS hr ho h=>a0o a0c (.tmp 8) rfl ((ho 8 (by decide)).trans rfl) (hS.s (g8,70,(uv (fam 5 O1)).toArray) (by simp)) rfl (h u (Kept.refl _ _))⟩
  ·refine⟨⟨_,rfl⟩,fun a' u K0 R hS hr ho h=>a0n rfl a2q (vs:=#[el S,el O1]) ?_ (cu.out u) h⟩;have h0:=hr 0 (el S) 31 _ rfl rfl rfl ⟨⟨0,.data⟩,by simp,rfl,rfl⟩;have h1:=hr 1 (el O1) 32 _ rfl rfl rfl ⟨⟨1,.data⟩,by simp,rfl,rfl⟩;simp [Act.eval]at h0 h1 ⊢;exact⟨h0,h1⟩
  ·exact⟨⟨_,rfl⟩,fun a' u K0 R hS hr ho h=>a0o a0c (.tmp 7) rfl ((ho 7 (by decide)).trans rfl) (hS.s (g7,70,(uv (fam 5 S)).toArray) (by simp)) rfl (h u (Kept.refl _ _))⟩
  ·exact⟨⟨_,rfl⟩,fun a' u K0 R hS hr ho h=>a0n rfl a7k (vs:=#[]) (by simp) (cd.out u) h⟩
  ·refine⟨⟨_,rfl⟩,fun a' u K0 R hS hr ho h=>a0n rfl a1e (vs:=#[el S,el KD]) ?_ (cd2.out u) h⟩;have h0:=hr 3 (el S) 34 _ rfl rfl rfl ⟨⟨3,.data⟩,by simp,rfl,rfl⟩;have h1:=hr 4 (el KD) 35 _ rfl rfl rfl ⟨⟨4,.data⟩,by simp,rfl,rfl⟩;simp [Act.eval]at h0 h1 ⊢;exact⟨h0,h1⟩
  ·exact⟨⟨_,rfl⟩,fun a' u K0 R hS hr ho h=>a0o a0c (.tmp 8) rfl ((ho 8 (by decide)).trans rfl) (hS.s (g8,70,(uv (fam 5 O1)).toArray) (by simp)) rfl (h u (Kept.refl _ _))⟩
  ·refine⟨⟨_,rfl⟩,fun a' u K0 R hS hr ho h=>a0n rfl a3p (vs:=#[el SD,el O1]) ?_ (cv.out u) h⟩;have h0:=hr 5 (el SD) 36 _ rfl rfl rfl ⟨⟨5,.data⟩,by simp,rfl,rfl⟩;have h1:=hr 6 (el O1) 37 _ rfl rfl rfl ⟨⟨6,.data⟩,by simp,rfl,rfl⟩;simp [Act.eval]at h0 h1 ⊢;exact⟨h0,h1⟩
  ·refine⟨⟨_,rfl⟩,fun a' u K0 R hS hr ho h=>a0n rfl a5w (vs:=#[el U,el V]) ?_ (cr.out u) h⟩;have h0:=hr 2 (el U) 33 _ rfl rfl rfl ⟨⟨2,.data⟩,by simp,rfl,rfl⟩;have h1:=hr 7 (el V) 38 _ rfl rfl rfl ⟨⟨7,.data⟩,by simp,rfl,rfl⟩;simp [Act.eval]at h0 h1 ⊢;exact⟨h0,h1⟩
  ·exact⟨⟨_,rfl⟩,fun a' u K0 R0 hS hr ho h=>wp_move (.tmp 39) rfl (hr 8 (.tuple #[el R,.bool false]) 39 _ rfl rfl rfl ⟨⟨8,.data⟩,by simp,rfl,rfl⟩) (h u (Kept.refl _ _))⟩
  ·exact⟨⟨_,rfl⟩,fun a' u K0 R0 hS hr ho h=>a3y (.tmp 30) 0 rfl (hr 9 (.tuple #[el R,.bool false]) 30 _ rfl rfl rfl ⟨⟨9,.data⟩,by simp,rfl,rfl⟩) rfl (h u (Kept.refl _ _))⟩
  ·exact⟨⟨_,rfl⟩,fun a' u K0 R0 hS hr ho h=>a3y (.tmp 30) 1 rfl (hr 9 (.tuple #[el R,.bool false]) 30 _ rfl rfl rfl ⟨⟨9,.data⟩,by simp,rfl,rfl⟩) rfl (h u (Kept.refl _ _))⟩
  ·exact⟨rfl,⟨⟨12,.data⟩,by simp,rfl,rfl⟩,⟨⟨10,.data⟩,by simp,rfl,rfl⟩,_,_,_,_,_,_,_,_,rfl,rfl,rfl,rfl,rfl,rfl,rfl,a0c,rfl,rfl,a0u _⟩
  ·exact⟨⟨_,rfl⟩,fun a' u K0 R0 hS hr ho h=>wp_assign (.tmp 41) rfl (hr 11 (.bool false) 41 _ rfl rfl rfl ⟨⟨11,.data⟩,by simp,rfl,rfl⟩) (h u (Kept.refl _ _))⟩
 intro γ w9 hS hγ hne hput;have b9:=hput 13 12 10 _ _ _ rfl rfl;have hf9:=hγ 12 _ _ rfl;generalize e9:γ 12=g9 at *;simp [a1f,VK,List.range,List.range.loop,Act.put,e9];have N9:=hjd (fun p hp=>Nat.ne_of_lt (Nat.lt_of_lt_of_le (t.out.s p hp).lt hf9));have L9:=hjd (Nat.le_trans t.out.k.size hf9);replace t:=hjd (show Pm w [(g9,70,(uv (fam 5 R)).toArray),(g8,70,(uv (fam 5 O1)).toArray),(g7,70,(uv (fam 5 S)).toArray),(g5,70,(uv (fam 5 Y)).toArray),(g2,72,pz.c.toArray),(g1,22,(bv (le X2 32)).toArray)] w9 from hS.cons b9);clear b9 hput hne hγ hS e9 hf9;go_wp2_with (first
  | (with_reducible refine a0y (o:=⟨some 53,_,_,_,_,_⟩) rfl rfl a7b ?_)
  | ((with_reducible refine a0a (o:=⟨none,.store 72 (.tmp 2) (.tmp 53),_,_,_,_⟩) a0l rfl (.tmp 2) (.tmp 53) rfl rfl rfl (t.out.s (g2,72,pz.c.toArray) (by simp)) pz.size pz.size pz.one ?_);intro v9 b9 k9))
 exact a1j a0l rfl rfl b9 pz.size rfl ⟨rfl,t.out.k.a0r k9 hl2.out⟩
set_option maxHeartbeats 3200000 in
theorem d4l(X:Nat)(hn:dcN X=true)(ho:¬128≤c31 X)(hr:rtB (dcU X) (dcV X)=false):∀W,Calls Tryz.prog 48 #[ab (le X 32)] W fun e' w'=>e'= .returned (.tuple #[pz.v,.int .i64 50])∧Kept [] W w':=by
 intro w;have hsh:=c5r X ho;have hsh2:=hsh;rw [show(2:Int) ^ 7=128 from rfl]at hsh2;clear ho;have e3:=b5v _ (a9m X);rw [←(a4b X).1]at e3;have e4:=hjd (a4b X).2;have cn:=hjd (show∀W,Calls Tryz.prog 113 #[ab (le (X % a4k) 32)] W fun e w'=>e= .returned (.tuple #[el (dcY X),.bool (dcN X)])∧Kept [] W w' from a7e _ (a0x _ _));rw [hn]at cn;have cm:=hjd (b1i (a1g X) (a1g X));have c1:=hjd (show∀W,Calls Tryz.prog 114 #[.int .u64 1] W fun e w'=>e= .returned (el (smL 1))∧Kept [] W w' from b8c 1 (by omega));have cu:=hjd (show SuC (mlF (dcY X) (dcY X)) (smL 1) (dcU X)from c7h (a0i (a1g X) (a1g X)) (a2j 1 (by omega)));have cd:=hjd b5o;have cd2:=hjd (b1i (a0i (a1g X) (a1g X)) a7w);have cv:=hjd (show AdC (mlF (mlF (dcY X) (dcY X)) kD) (smL 1) (dcV X)from c6k (a0i (a0i (a1g X) (a1g X)) a7w) (a2j 1 (by omega)));have cr:=hjd (show∀W,Calls Tryz.prog 115 #[el (dcU X),el (dcV X)] W fun e w'=>e= .returned (.tuple #[el (dcR X),.bool (rtB (dcU X) (dcV X))])∧Kept [] W w' from b2p _ _ (a9h X) (a8y X));rw [hr]at cr;clear hn hr;have hl:(bv (le (X % a4k) 32)).length=32:=by simp [a0x]
 replace hl:=hjd hl;generalize X % a4k=X2 at *;generalize dcR X=R at *;generalize dcU X=U at *;generalize dcV X=V at *;generalize mlF (mlF (dcY X) (dcY X)) kD=SD at *;generalize mlF (dcY X) (dcY X)=S at *;generalize kD=KD at *;generalize smL 1=O1 at *;generalize dcY X=Y at *;go_enter Tryz.func48,Tryz.ntmps48;go_wp2_with (first
  | ((with_reducible refine a0q (o:=⟨some 1,_,_,_,_,_⟩) (v:=ab (le X 32)) rfl (.tmp 0) rfl rfl ?_);intro g1 w1 m1)
  | ((with_reducible refine a0h (o:=⟨some 2,_,_,_,_,_⟩) rfl rfl a4e ?_);intro g2 w2 m2;have B1:=hjd (show Blk w2 g1 22 (bv (le X 32)).toArray from m1.blk.kept m2.kept (by simp));have D2:=hjd (m2.ne m1.blk.lt);have q1:=Blk.c3d B1.out;have q2:=B1.out.frozen 31;have C1:=hjd (Blk.c1p B1.out e4.out);have KC:=hjd ((Kept.refl [g1] w2).setCell (p:=⟨g1,31,none⟩) (.inl (by simp)) (.int .u8 ((c31 X2:Nat):Int)));have K2:=hjd ((m1.kept.a0g m2.kept).a0r KC.out m1.le);have B2:=hjd (show Blk _ g2 72 pz.c.toArray from m2.blk.kept KC.out (by simpa using fun e=>D2.out e.symm));have hl2:=hjd (Nat.le_trans m1.kept.size m2.le);clear m1 m2 KC)
  | ((refine a0t (o:=⟨some 19,_,_,_,_,_⟩) a2u rfl (.tmp 1) rfl rfl C1.out hl.out ?_);have t:=hjd (((Pm.mk (w0:=w) (L:=[]) (fun _ h=>absurd h (by simp)) K2.out).cons C1.out).cons B2.out);clear q1 q2 K2 B2)
  | (go_at_call 113;(with_reducible refine(cn.out _).mono ?_);rintro e y1 ⟨rfl,kk⟩;replace t:=hjd (t.out.kept kk);clear kk)
  | ((with_reducible refine a0h (o:=⟨some 5,_,_,_,_,_⟩) rfl rfl a1b ?_);intro g5 w5 m5)
  | ((with_reducible refine a0a (o:=⟨none,.store 70 (.tmp 5) (.tmp 21),_,_,_,_⟩) a0c rfl (.tmp 5) (.tmp 21) rfl rfl rfl m5.blk rfl rfl (a0u _) ?_);intro v5 b5 k5;replace t:=hjd (t.out.put m5 b5 k5);clear m5 b5 k5)
  | (with_reducible refine a0d (o:=⟨some 26,_,_,_,_,_⟩) a0c rfl (.tmp 5) rfl rfl (t.out.s (g5,70,(uv (fam 5 Y)).toArray) (by simp)) rfl ?_)
  | (with_reducible refine a0d (o:=⟨some 27,_,_,_,_,_⟩) a0c rfl (.tmp 5) rfl rfl (t.out.s (g5,70,(uv (fam 5 Y)).toArray) (by simp)) rfl ?_)
  | (go_at_call 99;(with_reducible refine(cm.out _).mono ?_);rintro e y1 ⟨rfl,kk⟩;replace t:=hjd (t.out.kept kk);clear kk)
  | (go_at_call 114;(with_reducible refine(c1.out _).mono ?_);rintro e y1 ⟨rfl,kk⟩;replace t:=hjd (t.out.kept kk);clear kk)
  | ((with_reducible refine a0h (o:=⟨some 7,_,_,_,_,_⟩) rfl rfl a1b ?_);intro g7 w7 m7;have N7:=hjd (fun p hp=>m7.ne (t.out.s p hp).lt);have L7:=hjd (Nat.le_trans t.out.k.size m7.le);have T7:=hjd (t.out.kept m7.kept))
  | ((with_reducible refine a0h (o:=⟨some 8,_,_,_,_,_⟩) rfl rfl a1b ?_);intro g8 w8 m8;have N8:=hjd (fun p hp=>m8.ne (T7.out.s p hp).lt);have D8:=hjd (m8.ne m7.blk.lt);have L8:=hjd (Nat.le_trans T7.out.k.size m8.le);have T8:=hjd (T7.out.kept m8.kept);have A7:=hjd (m7.blk.kept m8.kept (by simp)))
  | ((with_reducible refine a0a (o:=⟨none,.store 70 (.tmp 7) (.tmp 28),_,_,_,_⟩) a0c rfl (.tmp 7) (.tmp 28) rfl rfl rfl A7.out rfl rfl (a0u _) ?_);intro v7 b7 k7;have A8:=hjd (m8.blk.kept k7 (by simpa using fun e=>D8.out e.symm));have T9:=hjd (Pm.b0s T8.out N7.out L7.out b7 k7);clear T7 T8)
  | ((with_reducible refine a0a (o:=⟨none,.store 70 (.tmp 8) (.tmp 29),_,_,_,_⟩) a0c rfl (.tmp 8) (.tmp 29) rfl rfl rfl A8.out rfl rfl (a0u _) ?_);intro v8 b8 k8;replace t:=hjd (Pm.b0s T9.out (fun p hp=>(List.mem_cons.1 hp).elim (fun e=>by subst e;exact D8.out) (N8.out p)) L8.out b8 k8)))
 clear T9 N7 L7 N8 D8 L8 A7 A8 b7 k7 b8 k8 m7 m8;refine a2m (by kernel_rfl) [.val (el S),.val (el O1),.val (el U),.val (el S),.val (el KD),.val (el SD),.val (el O1),.val (el V),.val (.tuple #[el R,.bool false]),.val (.tuple #[el R,.bool false]),.val (el R),.val (.bool false),.new 70 (el a0j),.put 12 10 (uv (fam 5 R)).toArray,.val (.bool false)]
  (Pm w [(g8,70,(uv (fam 5 O1)).toArray),(g7,70,(uv (fam 5 S)).toArray),(g5,70,(uv (fam 5 Y)).toArray),(g2,72,pz.c.toArray),(g1,22,(bv (le X2 32)).toArray)]) (by kernel_rfl) (by kernel_rfl) t.out.drew (fun u u' T hS hk hT=>t.out.fresh u u' T hS hk hT) ?_ ?_
 ·refine⟨?_,?_,?_,?_,?_,?_,?_,?_,?_,?_,?_,?_,⟨⟨_,rfl⟩,rfl,a1b⟩,?_,?_,trivial⟩
  ·exact⟨⟨_,rfl⟩,fun a' u K0 R hS hr ho h=>a0o a0c (.tmp 7) rfl ((ho 7 (by decide)).trans rfl) (hS.s (g7,70,(uv (fam 5 S)).toArray) (by simp)) rfl (h u (Kept.refl _ _))⟩
  ·exact⟨⟨_,rfl⟩,fun a' u K0 R hS hr ho h=>a0o a0c (.tmp 8) rfl ((ho 8 (by decide)).trans rfl) (hS.s (g8,70,(uv (fam 5 O1)).toArray) (by simp)) rfl (h u (Kept.refl _ _))⟩
  ·refine⟨⟨_,rfl⟩,fun a' u K0 R hS hr ho h=>a0n rfl a2q (vs:=#[el S,el O1]) ?_ (cu.out u) h⟩;have h0:=hr 0 (el S) 31 _ rfl rfl rfl ⟨⟨0,.data⟩,by simp,rfl,rfl⟩;have h1:=hr 1 (el O1) 32 _ rfl rfl rfl ⟨⟨1,.data⟩,by simp,rfl,rfl⟩;simp [Act.eval]at h0 h1 ⊢;exact⟨h0,h1⟩
  ·exact⟨⟨_,rfl⟩,fun a' u K0 R hS hr ho h=>a0o a0c (.tmp 7) rfl ((ho 7 (by decide)).trans rfl) (hS.s (g7,70,(uv (fam 5 S)).toArray) (by simp)) rfl (h u (Kept.refl _ _))⟩
  ·exact⟨⟨_,rfl⟩,fun a' u K0 R hS hr ho h=>a0n rfl a7k (vs:=#[]) (by simp) (cd.out u) h⟩
  ·refine⟨⟨_,rfl⟩,fun a' u K0 R hS hr ho h=>a0n rfl a1e (vs:=#[el S,el KD]) ?_ (cd2.out u) h⟩;have h0:=hr 3 (el S) 34 _ rfl rfl rfl ⟨⟨3,.data⟩,by simp,rfl,rfl⟩;have h1:=hr 4 (el KD) 35 _ rfl rfl rfl ⟨⟨4,.data⟩,by simp,rfl,rfl⟩;simp [Act.eval]at h0 h1 ⊢;exact⟨h0,h1⟩
  ·exact⟨⟨_,rfl⟩,fun a' u K0 R hS hr ho h=>a0o a0c (.tmp 8) rfl ((ho 8 (by decide)).trans rfl) (hS.s (g8,70,(uv (fam 5 O1)).toArray) (by simp)) rfl (h u (Kept.refl _ _))⟩
  ·refine⟨⟨_,rfl⟩,fun a' u K0 R hS hr ho h=>a0n rfl a3p (vs:=#[el SD,el O1]) ?_ (cv.out u) h⟩;have h0:=hr 5 (el SD) 36 _ rfl rfl rfl ⟨⟨5,.data⟩,by simp,rfl,rfl⟩;have h1:=hr 6 (el O1) 37 _ rfl rfl rfl ⟨⟨6,.data⟩,by simp,rfl,rfl⟩;simp [Act.eval]at h0 h1 ⊢;exact⟨h0,h1⟩
  ·refine⟨⟨_,rfl⟩,fun a' u K0 R hS hr ho h=>a0n rfl a5w (vs:=#[el U,el V]) ?_ (cr.out u) h⟩;have h0:=hr 2 (el U) 33 _ rfl rfl rfl ⟨⟨2,.data⟩,by simp,rfl,rfl⟩;have h1:=hr 7 (el V) 38 _ rfl rfl rfl ⟨⟨7,.data⟩,by simp,rfl,rfl⟩;simp [Act.eval]at h0 h1 ⊢;exact⟨h0,h1⟩
  ·exact⟨⟨_,rfl⟩,fun a' u K0 R0 hS hr ho h=>wp_move (.tmp 39) rfl (hr 8 (.tuple #[el R,.bool false]) 39 _ rfl rfl rfl ⟨⟨8,.data⟩,by simp,rfl,rfl⟩) (h u (Kept.refl _ _))⟩
  ·exact⟨⟨_,rfl⟩,fun a' u K0 R0 hS hr ho h=>a3y (.tmp 30) 0 rfl (hr 9 (.tuple #[el R,.bool false]) 30 _ rfl rfl rfl ⟨⟨9,.data⟩,by simp,rfl,rfl⟩) rfl (h u (Kept.refl _ _))⟩
  ·exact⟨⟨_,rfl⟩,fun a' u K0 R0 hS hr ho h=>a3y (.tmp 30) 1 rfl (hr 9 (.tuple #[el R,.bool false]) 30 _ rfl rfl rfl ⟨⟨9,.data⟩,by simp,rfl,rfl⟩) rfl (h u (Kept.refl _ _))⟩
  ·exact⟨rfl,⟨⟨12,.data⟩,by simp,rfl,rfl⟩,⟨⟨10,.data⟩,by simp,rfl,rfl⟩,_,_,_,_,_,_,_,_,rfl,rfl,rfl,rfl,rfl,rfl,rfl,a0c,rfl,rfl,a0u _⟩
  ·exact⟨⟨_,rfl⟩,fun a' u K0 R0 hS hr ho h=>wp_assign (.tmp 41) rfl (hr 11 (.bool false) 41 _ rfl rfl rfl ⟨⟨11,.data⟩,by simp,rfl,rfl⟩) (h u (Kept.refl _ _))⟩
 intro γ w9 hS hγ hne hput;have b9:=hput 13 12 10 _ _ _ rfl rfl;have hf9:=hγ 12 _ _ rfl;generalize e9:γ 12=g9 at *;simp [a1f,VK,List.range,List.range.loop,Act.put,e9];have N9:=hjd (fun p hp=>Nat.ne_of_lt (Nat.lt_of_lt_of_le (t.out.s p hp).lt hf9));have L9:=hjd (Nat.le_trans t.out.k.size hf9);replace t:=hjd (show Pm w [(g9,70,(uv (fam 5 R)).toArray),(g8,70,(uv (fam 5 O1)).toArray),(g7,70,(uv (fam 5 S)).toArray),(g5,70,(uv (fam 5 Y)).toArray),(g2,72,pz.c.toArray),(g1,22,(bv (le X2 32)).toArray)] w9 from hS.cons b9);clear b9 hput hne hγ hS e9 hf9;go_wp2_with (first
  | (with_reducible refine a0y (o:=⟨some 53,_,_,_,_,_⟩) rfl rfl a7b ?_)
  | ((with_reducible refine a0a (o:=⟨none,.store 72 (.tmp 2) (.tmp 53),_,_,_,_⟩) a0l rfl (.tmp 2) (.tmp 53) rfl rfl rfl (t.out.s (g2,72,pz.c.toArray) (by simp)) pz.size pz.size pz.one ?_);intro v9 b9 k9))
 exact a1j a0l rfl rfl b9 pz.size rfl ⟨rfl,t.out.k.a0r k9 hl2.out⟩
set_option maxHeartbeats 3200000 in
theorem d9z(X:Nat)(hn:dcN X=true)(ho:128≤c31 X)(hr:rtB (dcU X) (dcV X)=true)(hz:dcZ X=true):∀W,Calls Tryz.prog 48 #[ab (le X 32)] W fun e' w'=>e'= .returned (.tuple #[pz.v,.int .i64 50])∧Kept [] W w':=by
 intro w;have hsh:=b5a X ho;have hsh2:=hsh;rw [show(2:Int) ^ 7=128 from rfl]at hsh2;clear ho;have e3:=b5v _ (a9m X);rw [←(a4b X).1]at e3;have e4:=hjd (a4b X).2;have cn:=hjd (show∀W,Calls Tryz.prog 113 #[ab (le (X % a4k) 32)] W fun e w'=>e= .returned (.tuple #[el (dcY X),.bool (dcN X)])∧Kept [] W w' from a7e _ (a0x _ _));rw [hn]at cn;have cm:=hjd (b1i (a1g X) (a1g X));have c1:=hjd (show∀W,Calls Tryz.prog 114 #[.int .u64 1] W fun e w'=>e= .returned (el (smL 1))∧Kept [] W w' from b8c 1 (by omega));have cu:=hjd (show SuC (mlF (dcY X) (dcY X)) (smL 1) (dcU X)from c7h (a0i (a1g X) (a1g X)) (a2j 1 (by omega)));have cd:=hjd b5o;have cd2:=hjd (b1i (a0i (a1g X) (a1g X)) a7w);have cv:=hjd (show AdC (mlF (mlF (dcY X) (dcY X)) kD) (smL 1) (dcV X)from c6k (a0i (a0i (a1g X) (a1g X)) a7w) (a2j 1 (by omega)));have cr:=hjd (show∀W,Calls Tryz.prog 115 #[el (dcU X),el (dcV X)] W fun e w'=>e= .returned (.tuple #[el (dcR X),.bool (rtB (dcU X) (dcV X))])∧Kept [] W w' from b2p _ _ (a9h X) (a8y X));rw [hr]at cr;have chh:=hjd (show HaC (dcR X) (fv (dcR X) % PP)from fun W=>a5c _ W (b3h X));have q:=a3r a2u Tryz.underlying5 (by kernel_rfl) (le (fv (dcR X) % PP) 32) (a0m 32) (a0x _ _) rfl;rw [show(le (fv (dcR X) % PP) 32 == a0m 32)=dcZ X from rfl,hz]at q;obtain⟨Z,hZ⟩:∃Z,Z=a0m 32:=⟨_,rfl⟩;have u0:=hjd (show Tryz.prog.built 22 []=some (bv Z).toArray by rw [hZ];exact c4f);rw [←hZ]at q;clear hZ;clear hn hr hz;have hl:(bv (le (X % a4k) 32)).length=32:=by simp [a0x]
 replace hl:=hjd hl;generalize X % a4k=X2 at *;generalize fv (dcR X) % PP=H at *;generalize dcR X=R at *;generalize dcU X=U at *;generalize dcV X=V at *;generalize mlF (mlF (dcY X) (dcY X)) kD=SD at *;generalize mlF (dcY X) (dcY X)=S at *;generalize kD=KD at *;generalize smL 1=O1 at *;generalize dcY X=Y at *;go_enter Tryz.func48,Tryz.ntmps48;go_wp2_with (first
  | ((with_reducible refine a0q (o:=⟨some 1,_,_,_,_,_⟩) (v:=ab (le X 32)) rfl (.tmp 0) rfl rfl ?_);intro g1 w1 m1)
  | ((with_reducible refine a0h (o:=⟨some 2,_,_,_,_,_⟩) rfl rfl a4e ?_);intro g2 w2 m2;have B1:=hjd (show Blk w2 g1 22 (bv (le X 32)).toArray from m1.blk.kept m2.kept (by simp));have D2:=hjd (m2.ne m1.blk.lt);have q1:=Blk.c3d B1.out;have q2:=B1.out.frozen 31;have C1:=hjd (Blk.c1p B1.out e4.out);have KC:=hjd ((Kept.refl [g1] w2).setCell (p:=⟨g1,31,none⟩) (.inl (by simp)) (.int .u8 ((c31 X2:Nat):Int)));have K2:=hjd ((m1.kept.a0g m2.kept).a0r KC.out m1.le);have B2:=hjd (show Blk _ g2 72 pz.c.toArray from m2.blk.kept KC.out (by simpa using fun e=>D2.out e.symm));have hl2:=hjd (Nat.le_trans m1.kept.size m2.le);clear m1 m2 KC)
  | ((refine a0t (o:=⟨some 19,_,_,_,_,_⟩) a2u rfl (.tmp 1) rfl rfl C1.out hl.out ?_);have t:=hjd (((Pm.mk (w0:=w) (L:=[]) (fun _ h=>absurd h (by simp)) K2.out).cons C1.out).cons B2.out);clear q1 q2 K2 B2)
  | (go_at_call 113;(with_reducible refine(cn.out _).mono ?_);rintro e y1 ⟨rfl,kk⟩;replace t:=hjd (t.out.kept kk);clear kk)
  | ((with_reducible refine a0h (o:=⟨some 5,_,_,_,_,_⟩) rfl rfl a1b ?_);intro g5 w5 m5)
  | ((with_reducible refine a0a (o:=⟨none,.store 70 (.tmp 5) (.tmp 21),_,_,_,_⟩) a0c rfl (.tmp 5) (.tmp 21) rfl rfl rfl m5.blk rfl rfl (a0u _) ?_);intro v5 b5 k5;replace t:=hjd (t.out.put m5 b5 k5);clear m5 b5 k5)
  | (with_reducible refine a0d (o:=⟨some 26,_,_,_,_,_⟩) a0c rfl (.tmp 5) rfl rfl (t.out.s (g5,70,(uv (fam 5 Y)).toArray) (by simp)) rfl ?_)
  | (with_reducible refine a0d (o:=⟨some 27,_,_,_,_,_⟩) a0c rfl (.tmp 5) rfl rfl (t.out.s (g5,70,(uv (fam 5 Y)).toArray) (by simp)) rfl ?_)
  | (go_at_call 99;(with_reducible refine(cm.out _).mono ?_);rintro e y1 ⟨rfl,kk⟩;replace t:=hjd (t.out.kept kk);clear kk)
  | (go_at_call 114;(with_reducible refine(c1.out _).mono ?_);rintro e y1 ⟨rfl,kk⟩;replace t:=hjd (t.out.kept kk);clear kk)
  | ((with_reducible refine a0h (o:=⟨some 7,_,_,_,_,_⟩) rfl rfl a1b ?_);intro g7 w7 m7;have N7:=hjd (fun p hp=>m7.ne (t.out.s p hp).lt);have L7:=hjd (Nat.le_trans t.out.k.size m7.le);have T7:=hjd (t.out.kept m7.kept))
  | ((with_reducible refine a0h (o:=⟨some 8,_,_,_,_,_⟩) rfl rfl a1b ?_);intro g8 w8 m8;have N8:=hjd (fun p hp=>m8.ne (T7.out.s p hp).lt);have D8:=hjd (m8.ne m7.blk.lt);have L8:=hjd (Nat.le_trans T7.out.k.size m8.le);have T8:=hjd (T7.out.kept m8.kept);have A7:=hjd (m7.blk.kept m8.kept (by simp)))
  | ((with_reducible refine a0a (o:=⟨none,.store 70 (.tmp 7) (.tmp 28),_,_,_,_⟩) a0c rfl (.tmp 7) (.tmp 28) rfl rfl rfl A7.out rfl rfl (a0u _) ?_);intro v7 b7 k7;have A8:=hjd (m8.blk.kept k7 (by simpa using fun e=>D8.out e.symm));have T9:=hjd (Pm.b0s T8.out N7.out L7.out b7 k7);clear T7 T8)
  | ((with_reducible refine a0a (o:=⟨none,.store 70 (.tmp 8) (.tmp 29),_,_,_,_⟩) a0c rfl (.tmp 8) (.tmp 29) rfl rfl rfl A8.out rfl rfl (a0u _) ?_);intro v8 b8 k8;replace t:=hjd (Pm.b0s T9.out (fun p hp=>(List.mem_cons.1 hp).elim (fun e=>by subst e;exact D8.out) (N8.out p)) L8.out b8 k8)))
 clear T9 N7 L7 N8 D8 L8 A7 A8 b7 k7 b8 k8 m7 m8;refine a2m (by kernel_rfl) [.val (el S),.val (el O1),.val (el U),.val (el S),.val (el KD),.val (el SD),.val (el O1),.val (el V),.val (.tuple #[el R,.bool true]),.val (.tuple #[el R,.bool true]),.val (el R),.val (.bool true),.new 70 (el a0j),.put 12 10 (uv (fam 5 R)).toArray,.val (.bool true)]
  (Pm w [(g8,70,(uv (fam 5 O1)).toArray),(g7,70,(uv (fam 5 S)).toArray),(g5,70,(uv (fam 5 Y)).toArray),(g2,72,pz.c.toArray),(g1,22,(bv (le X2 32)).toArray)]) (by kernel_rfl) (by kernel_rfl) t.out.drew (fun u u' T hS hk hT=>t.out.fresh u u' T hS hk hT) ?_ ?_
 ·refine⟨?_,?_,?_,?_,?_,?_,?_,?_,?_,?_,?_,?_,⟨⟨_,rfl⟩,rfl,a1b⟩,?_,?_,trivial⟩
  ·exact⟨⟨_,rfl⟩,fun a' u K0 R hS hr ho h=>a0o a0c (.tmp 7) rfl ((ho 7 (by decide)).trans rfl) (hS.s (g7,70,(uv (fam 5 S)).toArray) (by simp)) rfl (h u (Kept.refl _ _))⟩
  ·exact⟨⟨_,rfl⟩,fun a' u K0 R hS hr ho h=>a0o a0c (.tmp 8) rfl ((ho 8 (by decide)).trans rfl) (hS.s (g8,70,(uv (fam 5 O1)).toArray) (by simp)) rfl (h u (Kept.refl _ _))⟩
  ·refine⟨⟨_,rfl⟩,fun a' u K0 R hS hr ho h=>a0n rfl a2q (vs:=#[el S,el O1]) ?_ (cu.out u) h⟩;have h0:=hr 0 (el S) 31 _ rfl rfl rfl ⟨⟨0,.data⟩,by simp,rfl,rfl⟩;have h1:=hr 1 (el O1) 32 _ rfl rfl rfl ⟨⟨1,.data⟩,by simp,rfl,rfl⟩;simp [Act.eval]at h0 h1 ⊢;exact⟨h0,h1⟩
  ·exact⟨⟨_,rfl⟩,fun a' u K0 R hS hr ho h=>a0o a0c (.tmp 7) rfl ((ho 7 (by decide)).trans rfl) (hS.s (g7,70,(uv (fam 5 S)).toArray) (by simp)) rfl (h u (Kept.refl _ _))⟩
  ·exact⟨⟨_,rfl⟩,fun a' u K0 R hS hr ho h=>a0n rfl a7k (vs:=#[]) (by simp) (cd.out u) h⟩
  ·refine⟨⟨_,rfl⟩,fun a' u K0 R hS hr ho h=>a0n rfl a1e (vs:=#[el S,el KD]) ?_ (cd2.out u) h⟩;have h0:=hr 3 (el S) 34 _ rfl rfl rfl ⟨⟨3,.data⟩,by simp,rfl,rfl⟩;have h1:=hr 4 (el KD) 35 _ rfl rfl rfl ⟨⟨4,.data⟩,by simp,rfl,rfl⟩;simp [Act.eval]at h0 h1 ⊢;exact⟨h0,h1⟩
  ·exact⟨⟨_,rfl⟩,fun a' u K0 R hS hr ho h=>a0o a0c (.tmp 8) rfl ((ho 8 (by decide)).trans rfl) (hS.s (g8,70,(uv (fam 5 O1)).toArray) (by simp)) rfl (h u (Kept.refl _ _))⟩
  ·refine⟨⟨_,rfl⟩,fun a' u K0 R hS hr ho h=>a0n rfl a3p (vs:=#[el SD,el O1]) ?_ (cv.out u) h⟩;have h0:=hr 5 (el SD) 36 _ rfl rfl rfl ⟨⟨5,.data⟩,by simp,rfl,rfl⟩;have h1:=hr 6 (el O1) 37 _ rfl rfl rfl ⟨⟨6,.data⟩,by simp,rfl,rfl⟩;simp [Act.eval]at h0 h1 ⊢;exact⟨h0,h1⟩
  ·refine⟨⟨_,rfl⟩,fun a' u K0 R hS hr ho h=>a0n rfl a5w (vs:=#[el U,el V]) ?_ (cr.out u) h⟩;have h0:=hr 2 (el U) 33 _ rfl rfl rfl ⟨⟨2,.data⟩,by simp,rfl,rfl⟩;have h1:=hr 7 (el V) 38 _ rfl rfl rfl ⟨⟨7,.data⟩,by simp,rfl,rfl⟩;simp [Act.eval]at h0 h1 ⊢;exact⟨h0,h1⟩
  ·exact⟨⟨_,rfl⟩,fun a' u K0 R0 hS hr ho h=>wp_move (.tmp 39) rfl (hr 8 (.tuple #[el R,.bool true]) 39 _ rfl rfl rfl ⟨⟨8,.data⟩,by simp,rfl,rfl⟩) (h u (Kept.refl _ _))⟩
  ·exact⟨⟨_,rfl⟩,fun a' u K0 R0 hS hr ho h=>a3y (.tmp 30) 0 rfl (hr 9 (.tuple #[el R,.bool true]) 30 _ rfl rfl rfl ⟨⟨9,.data⟩,by simp,rfl,rfl⟩) rfl (h u (Kept.refl _ _))⟩
  ·exact⟨⟨_,rfl⟩,fun a' u K0 R0 hS hr ho h=>a3y (.tmp 30) 1 rfl (hr 9 (.tuple #[el R,.bool true]) 30 _ rfl rfl rfl ⟨⟨9,.data⟩,by simp,rfl,rfl⟩) rfl (h u (Kept.refl _ _))⟩
  ·exact⟨rfl,⟨⟨12,.data⟩,by simp,rfl,rfl⟩,⟨⟨10,.data⟩,by simp,rfl,rfl⟩,_,_,_,_,_,_,_,_,rfl,rfl,rfl,rfl,rfl,rfl,rfl,a0c,rfl,rfl,a0u _⟩
  ·exact⟨⟨_,rfl⟩,fun a' u K0 R0 hS hr ho h=>wp_assign (.tmp 41) rfl (hr 11 (.bool true) 41 _ rfl rfl rfl ⟨⟨11,.data⟩,by simp,rfl,rfl⟩) (h u (Kept.refl _ _))⟩
 intro γ w9 hS hγ hne hput;have b9:=hput 13 12 10 _ _ _ rfl rfl;have hf9:=hγ 12 _ _ rfl;generalize e9:γ 12=g9 at *;simp [a1f,VK,List.range,List.range.loop,Act.put,e9];have N9:=hjd (fun p hp=>Nat.ne_of_lt (Nat.lt_of_lt_of_le (t.out.s p hp).lt hf9));have L9:=hjd (Nat.le_trans t.out.k.size hf9);replace t:=hjd (show Pm w [(g9,70,(uv (fam 5 R)).toArray),(g8,70,(uv (fam 5 O1)).toArray),(g7,70,(uv (fam 5 S)).toArray),(g5,70,(uv (fam 5 Y)).toArray),(g2,72,pz.c.toArray),(g1,22,(bv (le X2 32)).toArray)] w9 from hS.cons b9);clear b9 hput hne hγ hS e9 hf9;go_wp2_with (first
  | (refine a0d (o:=⟨some 47,_,_,_,_,_⟩) a0c rfl (.tmp 9) rfl rfl (t.out.s (g9,70,(uv (fam 5 R)).toArray) (by simp)) rfl ?_)
  | (go_at_call 100;(with_reducible refine(chh.out _).mono ?_);rintro e y1 ⟨rfl,kk⟩;replace t:=hjd (t.out.kept kk);clear kk)
  | (refine a0y (o:=⟨some 49,_,_,_,_,_⟩) rfl rfl u0.out ?_)
  | (with_reducible refine a0y (o:=⟨some 53,_,_,_,_,_⟩) rfl rfl a7b ?_)
  | ((with_reducible refine a0a (o:=⟨none,.store 72 (.tmp 2) (.tmp 53),_,_,_,_⟩) a0l rfl (.tmp 2) (.tmp 53) rfl rfl rfl (t.out.s (g2,72,pz.c.toArray) (by simp)) pz.size pz.size pz.one ?_);intro v9 b9 k9))
 exact a1j a0l rfl rfl b9 pz.size rfl ⟨rfl,t.out.k.a0r k9 hl2.out⟩
set_option maxHeartbeats 3200000 in
theorem e6y(X:Nat)(hn:dcN X=true)(ho:128≤c31 X)(hr:rtB (dcU X) (dcV X)=true)(hz:dcZ X=false):∀W,Calls Tryz.prog 48 #[ab (le X 32)] W fun e' w'=>e'= .returned (.tuple #[(afQ (suF (smL 0) (dcR X)) (dcY X)).v,.int .i64 0])∧Kept [] W w':=by
 intro w;have hsh:=b5a X ho;have hsh2:=hsh;rw [show(2:Int) ^ 7=128 from rfl]at hsh2;clear ho;have e3:=b5v _ (a9m X);rw [←(a4b X).1]at e3;have e4:=hjd (a4b X).2;have cn:=hjd (show∀W,Calls Tryz.prog 113 #[ab (le (X % a4k) 32)] W fun e w'=>e= .returned (.tuple #[el (dcY X),.bool (dcN X)])∧Kept [] W w' from a7e _ (a0x _ _));rw [hn]at cn;have cm:=hjd (b1i (a1g X) (a1g X));have c1:=hjd (show∀W,Calls Tryz.prog 114 #[.int .u64 1] W fun e w'=>e= .returned (el (smL 1))∧Kept [] W w' from b8c 1 (by omega));have cu:=hjd (show SuC (mlF (dcY X) (dcY X)) (smL 1) (dcU X)from c7h (a0i (a1g X) (a1g X)) (a2j 1 (by omega)));have cd:=hjd b5o;have cd2:=hjd (b1i (a0i (a1g X) (a1g X)) a7w);have cv:=hjd (show AdC (mlF (mlF (dcY X) (dcY X)) kD) (smL 1) (dcV X)from c6k (a0i (a0i (a1g X) (a1g X)) a7w) (a2j 1 (by omega)));have cr:=hjd (show∀W,Calls Tryz.prog 115 #[el (dcU X),el (dcV X)] W fun e w'=>e= .returned (.tuple #[el (dcR X),.bool (rtB (dcU X) (dcV X))])∧Kept [] W w' from b2p _ _ (a9h X) (a8y X));rw [hr]at cr;have chh:=hjd (show HaC (dcR X) (fv (dcR X) % PP)from fun W=>a5c _ W (b3h X));have q:=a3r a2u Tryz.underlying5 (by kernel_rfl) (le (fv (dcR X) % PP) 32) (a0m 32) (a0x _ _) rfl;rw [show(le (fv (dcR X) % PP) 32 == a0m 32)=dcZ X from rfl,hz]at q;obtain⟨Z,hZ⟩:∃Z,Z=a0m 32:=⟨_,rfl⟩;have u0:=hjd (show Tryz.prog.built 22 []=some (bv Z).toArray by rw [hZ];exact c4f);rw [←hZ]at q;clear hZ
 have c0:=hjd (show∀W,Calls Tryz.prog 114 #[.int .u64 0] W fun e w'=>e= .returned (el (smL 0))∧Kept [] W w' from b8c 0 (by omega));have cs:=hjd (c7h (a2j 0 (by omega)) (b3h X));have ca:=hjd (aff_c (a1h (a2j 0 (by omega)) (b3h X)) (a1g X));generalize afQ (suF (smL 0) (dcR X)) (dcY X)=Q at *;generalize suF (smL 0) (dcR X)=R2 at *;clear hn hr hz;have hl:(bv (le (X % a4k) 32)).length=32:=by simp [a0x]
 replace hl:=hjd hl;generalize X % a4k=X2 at *;generalize fv (dcR X) % PP=H at *;generalize dcR X=R at *;generalize dcU X=U at *;generalize dcV X=V at *;generalize mlF (mlF (dcY X) (dcY X)) kD=SD at *;generalize mlF (dcY X) (dcY X)=S at *;generalize kD=KD at *;generalize smL 1=O1 at *;generalize smL 0=O0 at *;generalize dcY X=Y at *;go_enter Tryz.func48,Tryz.ntmps48;go_wp2_with (first
  | ((with_reducible refine a0q (o:=⟨some 1,_,_,_,_,_⟩) (v:=ab (le X 32)) rfl (.tmp 0) rfl rfl ?_);intro g1 w1 m1)
  | ((with_reducible refine a0h (o:=⟨some 2,_,_,_,_,_⟩) rfl rfl a4e ?_);intro g2 w2 m2;have B1:=hjd (show Blk w2 g1 22 (bv (le X 32)).toArray from m1.blk.kept m2.kept (by simp));have D2:=hjd (m2.ne m1.blk.lt);have q1:=Blk.c3d B1.out;have q2:=B1.out.frozen 31;have C1:=hjd (Blk.c1p B1.out e4.out);have KC:=hjd ((Kept.refl [g1] w2).setCell (p:=⟨g1,31,none⟩) (.inl (by simp)) (.int .u8 ((c31 X2:Nat):Int)));have K2:=hjd ((m1.kept.a0g m2.kept).a0r KC.out m1.le);have B2:=hjd (show Blk _ g2 72 pz.c.toArray from m2.blk.kept KC.out (by simpa using fun e=>D2.out e.symm));have hl2:=hjd (Nat.le_trans m1.kept.size m2.le);clear m1 m2 KC)
  | ((refine a0t (o:=⟨some 19,_,_,_,_,_⟩) a2u rfl (.tmp 1) rfl rfl C1.out hl.out ?_);have t:=hjd (((Pm.mk (w0:=w) (L:=[]) (fun _ h=>absurd h (by simp)) K2.out).cons C1.out).cons B2.out);clear q1 q2 K2 B2)
  | (go_at_call 113;(with_reducible refine(cn.out _).mono ?_);rintro e y1 ⟨rfl,kk⟩;replace t:=hjd (t.out.kept kk);clear kk)
  | ((with_reducible refine a0h (o:=⟨some 5,_,_,_,_,_⟩) rfl rfl a1b ?_);intro g5 w5 m5)
  | ((with_reducible refine a0a (o:=⟨none,.store 70 (.tmp 5) (.tmp 21),_,_,_,_⟩) a0c rfl (.tmp 5) (.tmp 21) rfl rfl rfl m5.blk rfl rfl (a0u _) ?_);intro v5 b5 k5;replace t:=hjd (t.out.put m5 b5 k5);clear m5 b5 k5)
  | (with_reducible refine a0d (o:=⟨some 26,_,_,_,_,_⟩) a0c rfl (.tmp 5) rfl rfl (t.out.s (g5,70,(uv (fam 5 Y)).toArray) (by simp)) rfl ?_)
  | (with_reducible refine a0d (o:=⟨some 27,_,_,_,_,_⟩) a0c rfl (.tmp 5) rfl rfl (t.out.s (g5,70,(uv (fam 5 Y)).toArray) (by simp)) rfl ?_)
  | (go_at_call 99;(with_reducible refine(cm.out _).mono ?_);rintro e y1 ⟨rfl,kk⟩;replace t:=hjd (t.out.kept kk);clear kk)
  | (go_at_call 114;(with_reducible refine(c1.out _).mono ?_);rintro e y1 ⟨rfl,kk⟩;replace t:=hjd (t.out.kept kk);clear kk)
  | ((with_reducible refine a0h (o:=⟨some 7,_,_,_,_,_⟩) rfl rfl a1b ?_);intro g7 w7 m7;have N7:=hjd (fun p hp=>m7.ne (t.out.s p hp).lt);have L7:=hjd (Nat.le_trans t.out.k.size m7.le);have T7:=hjd (t.out.kept m7.kept))
  | ((with_reducible refine a0h (o:=⟨some 8,_,_,_,_,_⟩) rfl rfl a1b ?_);intro g8 w8 m8;have N8:=hjd (fun p hp=>m8.ne (T7.out.s p hp).lt);have D8:=hjd (m8.ne m7.blk.lt);have L8:=hjd (Nat.le_trans T7.out.k.size m8.le);have T8:=hjd (T7.out.kept m8.kept);have A7:=hjd (m7.blk.kept m8.kept (by simp)))
  | ((with_reducible refine a0a (o:=⟨none,.store 70 (.tmp 7) (.tmp 28),_,_,_,_⟩) a0c rfl (.tmp 7) (.tmp 28) rfl rfl rfl A7.out rfl rfl (a0u _) ?_);intro v7 b7 k7;have A8:=hjd (m8.blk.kept k7 (by simpa using fun e=>D8.out e.symm));have T9:=hjd (Pm.b0s T8.out N7.out L7.out b7 k7);clear T7 T8)
  | ((with_reducible refine a0a (o:=⟨none,.store 70 (.tmp 8) (.tmp 29),_,_,_,_⟩) a0c rfl (.tmp 8) (.tmp 29) rfl rfl rfl A8.out rfl rfl (a0u _) ?_);intro v8 b8 k8;replace t:=hjd (Pm.b0s T9.out (fun p hp=>(List.mem_cons.1 hp).elim (fun e=>by subst e;exact D8.out) (N8.out p)) L8.out b8 k8)))
 clear T9 N7 L7 N8 D8 L8 A7 A8 b7 k7 b8 k8 m7 m8;refine a2m (by kernel_rfl) [.val (el S),.val (el O1),.val (el U),.val (el S),.val (el KD),.val (el SD),.val (el O1),.val (el V),.val (.tuple #[el R,.bool true]),.val (.tuple #[el R,.bool true]),.val (el R),.val (.bool true),.new 70 (el a0j),.put 12 10 (uv (fam 5 R)).toArray,.val (.bool true)]
  (Pm w [(g8,70,(uv (fam 5 O1)).toArray),(g7,70,(uv (fam 5 S)).toArray),(g5,70,(uv (fam 5 Y)).toArray),(g2,72,pz.c.toArray),(g1,22,(bv (le X2 32)).toArray)]) (by kernel_rfl) (by kernel_rfl) t.out.drew (fun u u' T hS hk hT=>t.out.fresh u u' T hS hk hT) ?_ ?_
 ·refine⟨?_,?_,?_,?_,?_,?_,?_,?_,?_,?_,?_,?_,⟨⟨_,rfl⟩,rfl,a1b⟩,?_,?_,trivial⟩
  ·exact⟨⟨_,rfl⟩,fun a' u K0 R hS hr ho h=>a0o a0c (.tmp 7) rfl ((ho 7 (by decide)).trans rfl) (hS.s (g7,70,(uv (fam 5 S)).toArray) (by simp)) rfl (h u (Kept.refl _ _))⟩
  ·exact⟨⟨_,rfl⟩,fun a' u K0 R hS hr ho h=>a0o a0c (.tmp 8) rfl ((ho 8 (by decide)).trans rfl) (hS.s (g8,70,(uv (fam 5 O1)).toArray) (by simp)) rfl (h u (Kept.refl _ _))⟩
  ·refine⟨⟨_,rfl⟩,fun a' u K0 R hS hr ho h=>a0n rfl a2q (vs:=#[el S,el O1]) ?_ (cu.out u) h⟩;have h0:=hr 0 (el S) 31 _ rfl rfl rfl ⟨⟨0,.data⟩,by simp,rfl,rfl⟩;have h1:=hr 1 (el O1) 32 _ rfl rfl rfl ⟨⟨1,.data⟩,by simp,rfl,rfl⟩;simp [Act.eval]at h0 h1 ⊢;exact⟨h0,h1⟩
  ·exact⟨⟨_,rfl⟩,fun a' u K0 R hS hr ho h=>a0o a0c (.tmp 7) rfl ((ho 7 (by decide)).trans rfl) (hS.s (g7,70,(uv (fam 5 S)).toArray) (by simp)) rfl (h u (Kept.refl _ _))⟩
  ·exact⟨⟨_,rfl⟩,fun a' u K0 R hS hr ho h=>a0n rfl a7k (vs:=#[]) (by simp) (cd.out u) h⟩
  ·refine⟨⟨_,rfl⟩,fun a' u K0 R hS hr ho h=>a0n rfl a1e (vs:=#[el S,el KD]) ?_ (cd2.out u) h⟩;have h0:=hr 3 (el S) 34 _ rfl rfl rfl ⟨⟨3,.data⟩,by simp,rfl,rfl⟩;have h1:=hr 4 (el KD) 35 _ rfl rfl rfl ⟨⟨4,.data⟩,by simp,rfl,rfl⟩;simp [Act.eval]at h0 h1 ⊢;exact⟨h0,h1⟩
  ·exact⟨⟨_,rfl⟩,fun a' u K0 R hS hr ho h=>a0o a0c (.tmp 8) rfl ((ho 8 (by decide)).trans rfl) (hS.s (g8,70,(uv (fam 5 O1)).toArray) (by simp)) rfl (h u (Kept.refl _ _))⟩
  ·refine⟨⟨_,rfl⟩,fun a' u K0 R hS hr ho h=>a0n rfl a3p (vs:=#[el SD,el O1]) ?_ (cv.out u) h⟩;have h0:=hr 5 (el SD) 36 _ rfl rfl rfl ⟨⟨5,.data⟩,by simp,rfl,rfl⟩;have h1:=hr 6 (el O1) 37 _ rfl rfl rfl ⟨⟨6,.data⟩,by simp,rfl,rfl⟩;simp [Act.eval]at h0 h1 ⊢;exact⟨h0,h1⟩
  ·refine⟨⟨_,rfl⟩,fun a' u K0 R hS hr ho h=>a0n rfl a5w (vs:=#[el U,el V]) ?_ (cr.out u) h⟩;have h0:=hr 2 (el U) 33 _ rfl rfl rfl ⟨⟨2,.data⟩,by simp,rfl,rfl⟩;have h1:=hr 7 (el V) 38 _ rfl rfl rfl ⟨⟨7,.data⟩,by simp,rfl,rfl⟩;simp [Act.eval]at h0 h1 ⊢;exact⟨h0,h1⟩
  ·exact⟨⟨_,rfl⟩,fun a' u K0 R0 hS hr ho h=>wp_move (.tmp 39) rfl (hr 8 (.tuple #[el R,.bool true]) 39 _ rfl rfl rfl ⟨⟨8,.data⟩,by simp,rfl,rfl⟩) (h u (Kept.refl _ _))⟩
  ·exact⟨⟨_,rfl⟩,fun a' u K0 R0 hS hr ho h=>a3y (.tmp 30) 0 rfl (hr 9 (.tuple #[el R,.bool true]) 30 _ rfl rfl rfl ⟨⟨9,.data⟩,by simp,rfl,rfl⟩) rfl (h u (Kept.refl _ _))⟩
  ·exact⟨⟨_,rfl⟩,fun a' u K0 R0 hS hr ho h=>a3y (.tmp 30) 1 rfl (hr 9 (.tuple #[el R,.bool true]) 30 _ rfl rfl rfl ⟨⟨9,.data⟩,by simp,rfl,rfl⟩) rfl (h u (Kept.refl _ _))⟩
  ·exact⟨rfl,⟨⟨12,.data⟩,by simp,rfl,rfl⟩,⟨⟨10,.data⟩,by simp,rfl,rfl⟩,_,_,_,_,_,_,_,_,rfl,rfl,rfl,rfl,rfl,rfl,rfl,a0c,rfl,rfl,a0u _⟩
  ·exact⟨⟨_,rfl⟩,fun a' u K0 R0 hS hr ho h=>wp_assign (.tmp 41) rfl (hr 11 (.bool true) 41 _ rfl rfl rfl ⟨⟨11,.data⟩,by simp,rfl,rfl⟩) (h u (Kept.refl _ _))⟩
 intro γ w9 hS hγ hne hput;have b9:=hput 13 12 10 _ _ _ rfl rfl;have hf9:=hγ 12 _ _ rfl;generalize e9:γ 12=g9 at *;simp [a1f,VK,List.range,List.range.loop,Act.put,e9];have N9:=hjd (fun p hp=>Nat.ne_of_lt (Nat.lt_of_lt_of_le (t.out.s p hp).lt hf9));have L9:=hjd (Nat.le_trans t.out.k.size hf9);replace t:=hjd (show Pm w [(g9,70,(uv (fam 5 R)).toArray),(g8,70,(uv (fam 5 O1)).toArray),(g7,70,(uv (fam 5 S)).toArray),(g5,70,(uv (fam 5 Y)).toArray),(g2,72,pz.c.toArray),(g1,22,(bv (le X2 32)).toArray)] w9 from hS.cons b9);clear b9 hput hne hγ hS e9 hf9;go_wp2_with (first
  | (refine a0d (o:=⟨some 47,_,_,_,_,_⟩) a0c rfl (.tmp 9) rfl rfl (t.out.s (g9,70,(uv (fam 5 R)).toArray) (by simp)) rfl ?_)
  | (go_at_call 100;(with_reducible refine(chh.out _).mono ?_);rintro e y1 ⟨rfl,kk⟩;replace t:=hjd (t.out.kept kk);clear kk)
  | (refine a0y (o:=⟨some 49,_,_,_,_,_⟩) rfl rfl u0.out ?_))
 refine a6n (by kernel_rfl) [el O0,el R,el R2] (Pm w [(g9,70,(uv (fam 5 R)).toArray),(g8,70,(uv (fam 5 O1)).toArray),(g7,70,(uv (fam 5 S)).toArray),(g5,70,(uv (fam 5 Y)).toArray),(g2,72,pz.c.toArray),(g1,22,(bv (le X2 32)).toArray)]) (by kernel_rfl) rfl rfl (by kernel_rfl) t.out.drew (fun u u' h hk=>h.kept hk) ?_ ?_
 ·refine⟨?_,?_,?_,trivial⟩
  ·exact fun a' u K0 R0 hS hr ho h=>a0n rfl c0v (vs:=#[.int .u64 0]) (by simp [Act.eval]) (c0.out u) h
  ·exact fun a' u K0 R0 hS hr ho h=>a0o a0c (.tmp 9) rfl ((ho 9 (by decide)).trans rfl) (hS.s (g9,70,(uv (fam 5 R)).toArray) (by simp)) rfl (h u (Kept.refl _ _))
  ·refine fun a' u K0 R0 hS hr ho h=>a0n rfl a2q (vs:=#[el O0,el R]) ?_ (cs.out u) h
   have h0:=hr 0 (el O0) 55 _ rfl rfl rfl ⟨⟨0,.data⟩,by simp,rfl,rfl⟩;have h1:=hr 1 (el R) 56 _ rfl rfl rfl ⟨⟨1,.data⟩,by simp,rfl,rfl⟩;simp [Act.eval]at h0 h1 ⊢;exact⟨h0,h1⟩
 intro u7 hS7;simp [a1f,List.range,List.range.loop,Act.put];refine a5k a0c (.tmp 9) (.tmp 57) rfl rfl rfl (hS7.s (g9,70,(uv (fam 5 R)).toArray) (by simp)) rfl rfl (a0u _) ?_;simp [Act.put];have b7:=(hS7.s (g9,70,(uv (fam 5 R)).toArray) (by simp)).a5i (uv (fam 5 R2)).toArray;have kk7:Kept [g9] u7 (u7.setRow g9 (uv (fam 5 R2)).toArray):=(Kept.refl [g9] u7).setRow (.inl (by simp)) _;replace t:=hjd (hS7.again L9.out N9.out b7 kk7);clear kk7 b7 hS7;go_wp2_with (first
  | (with_reducible refine a0d (o:=⟨some 58,_,_,_,_,_⟩) a0c rfl (.tmp 9) rfl rfl (t.out.s (g9,70,(uv (fam 5 R2)).toArray) (by simp)) rfl ?_)
  | (with_reducible refine a0d (o:=⟨some 59,_,_,_,_,_⟩) a0c rfl (.tmp 5) rfl rfl (t.out.s (g5,70,(uv (fam 5 Y)).toArray) (by simp)) rfl ?_)
  | (go_at_call 89;(with_reducible refine(ca.out _).mono ?_);rintro e y1 ⟨rfl,kk⟩;replace t:=hjd (t.out.kept kk);clear kk)
  | ((with_reducible refine a0a (o:=⟨none,.store 72 (.tmp 2) (.tmp 60),_,_,_,_⟩) a0l rfl (.tmp 2) (.tmp 60) rfl rfl rfl (t.out.s (g2,72,pz.c.toArray) (by simp)) pz.size (P4.size _) (P4.one _) ?_);intro v9 b9 k9))
 exact a1j a0l rfl rfl b9 (P4.size _) rfl ⟨rfl,t.out.k.a0r k9 hl2.out⟩
set_option maxHeartbeats 3200000 in
theorem e1f(X:Nat)(hn:dcN X=true)(ho:¬128≤c31 X)(hr:rtB (dcU X) (dcV X)=true):∀W,Calls Tryz.prog 48 #[ab (le X 32)] W fun e' w'=>e'= .returned (.tuple #[(afQ (dcR X) (dcY X)).v,.int .i64 0])∧Kept [] W w':=by
 intro w;have hsh:=c5r X ho;have hsh2:=hsh;rw [show(2:Int) ^ 7=128 from rfl]at hsh2;clear ho;have e3:=b5v _ (a9m X);rw [←(a4b X).1]at e3;have e4:=hjd (a4b X).2;have cn:=hjd (show∀W,Calls Tryz.prog 113 #[ab (le (X % a4k) 32)] W fun e w'=>e= .returned (.tuple #[el (dcY X),.bool (dcN X)])∧Kept [] W w' from a7e _ (a0x _ _));rw [hn]at cn;have cm:=hjd (b1i (a1g X) (a1g X));have c1:=hjd (show∀W,Calls Tryz.prog 114 #[.int .u64 1] W fun e w'=>e= .returned (el (smL 1))∧Kept [] W w' from b8c 1 (by omega));have cu:=hjd (show SuC (mlF (dcY X) (dcY X)) (smL 1) (dcU X)from c7h (a0i (a1g X) (a1g X)) (a2j 1 (by omega)));have cd:=hjd b5o;have cd2:=hjd (b1i (a0i (a1g X) (a1g X)) a7w);have cv:=hjd (show AdC (mlF (mlF (dcY X) (dcY X)) kD) (smL 1) (dcV X)from c6k (a0i (a0i (a1g X) (a1g X)) a7w) (a2j 1 (by omega)));have cr:=hjd (show∀W,Calls Tryz.prog 115 #[el (dcU X),el (dcV X)] W fun e w'=>e= .returned (.tuple #[el (dcR X),.bool (rtB (dcU X) (dcV X))])∧Kept [] W w' from b2p _ _ (a9h X) (a8y X));rw [hr]at cr;have ca:=hjd (aff_c (b3h X) (a1g X));generalize afQ (dcR X) (dcY X)=Q at *;clear hn hr;have hl:(bv (le (X % a4k) 32)).length=32:=by simp [a0x]
 replace hl:=hjd hl;generalize X % a4k=X2 at *;generalize dcR X=R at *;generalize dcU X=U at *;generalize dcV X=V at *;generalize mlF (mlF (dcY X) (dcY X)) kD=SD at *;generalize mlF (dcY X) (dcY X)=S at *;generalize kD=KD at *;generalize smL 1=O1 at *;generalize dcY X=Y at *;go_enter Tryz.func48,Tryz.ntmps48;go_wp2_with (first
  | ((with_reducible refine a0q (o:=⟨some 1,_,_,_,_,_⟩) (v:=ab (le X 32)) rfl (.tmp 0) rfl rfl ?_);intro g1 w1 m1)
  | ((with_reducible refine a0h (o:=⟨some 2,_,_,_,_,_⟩) rfl rfl a4e ?_);intro g2 w2 m2;have B1:=hjd (show Blk w2 g1 22 (bv (le X 32)).toArray from m1.blk.kept m2.kept (by simp));have D2:=hjd (m2.ne m1.blk.lt);have q1:=Blk.c3d B1.out;have q2:=B1.out.frozen 31;have C1:=hjd (Blk.c1p B1.out e4.out);have KC:=hjd ((Kept.refl [g1] w2).setCell (p:=⟨g1,31,none⟩) (.inl (by simp)) (.int .u8 ((c31 X2:Nat):Int)));have K2:=hjd ((m1.kept.a0g m2.kept).a0r KC.out m1.le);have B2:=hjd (show Blk _ g2 72 pz.c.toArray from m2.blk.kept KC.out (by simpa using fun e=>D2.out e.symm));have hl2:=hjd (Nat.le_trans m1.kept.size m2.le);clear m1 m2 KC)
  | ((refine a0t (o:=⟨some 19,_,_,_,_,_⟩) a2u rfl (.tmp 1) rfl rfl C1.out hl.out ?_);have t:=hjd (((Pm.mk (w0:=w) (L:=[]) (fun _ h=>absurd h (by simp)) K2.out).cons C1.out).cons B2.out);clear q1 q2 K2 B2)
  | (go_at_call 113;(with_reducible refine(cn.out _).mono ?_);rintro e y1 ⟨rfl,kk⟩;replace t:=hjd (t.out.kept kk);clear kk)
  | ((with_reducible refine a0h (o:=⟨some 5,_,_,_,_,_⟩) rfl rfl a1b ?_);intro g5 w5 m5)
  | ((with_reducible refine a0a (o:=⟨none,.store 70 (.tmp 5) (.tmp 21),_,_,_,_⟩) a0c rfl (.tmp 5) (.tmp 21) rfl rfl rfl m5.blk rfl rfl (a0u _) ?_);intro v5 b5 k5;replace t:=hjd (t.out.put m5 b5 k5);clear m5 b5 k5)
  | (with_reducible refine a0d (o:=⟨some 26,_,_,_,_,_⟩) a0c rfl (.tmp 5) rfl rfl (t.out.s (g5,70,(uv (fam 5 Y)).toArray) (by simp)) rfl ?_)
  | (with_reducible refine a0d (o:=⟨some 27,_,_,_,_,_⟩) a0c rfl (.tmp 5) rfl rfl (t.out.s (g5,70,(uv (fam 5 Y)).toArray) (by simp)) rfl ?_)
  | (go_at_call 99;(with_reducible refine(cm.out _).mono ?_);rintro e y1 ⟨rfl,kk⟩;replace t:=hjd (t.out.kept kk);clear kk)
  | (go_at_call 114;(with_reducible refine(c1.out _).mono ?_);rintro e y1 ⟨rfl,kk⟩;replace t:=hjd (t.out.kept kk);clear kk)
  | ((with_reducible refine a0h (o:=⟨some 7,_,_,_,_,_⟩) rfl rfl a1b ?_);intro g7 w7 m7;have N7:=hjd (fun p hp=>m7.ne (t.out.s p hp).lt);have L7:=hjd (Nat.le_trans t.out.k.size m7.le);have T7:=hjd (t.out.kept m7.kept))
  | ((with_reducible refine a0h (o:=⟨some 8,_,_,_,_,_⟩) rfl rfl a1b ?_);intro g8 w8 m8;have N8:=hjd (fun p hp=>m8.ne (T7.out.s p hp).lt);have D8:=hjd (m8.ne m7.blk.lt);have L8:=hjd (Nat.le_trans T7.out.k.size m8.le);have T8:=hjd (T7.out.kept m8.kept);have A7:=hjd (m7.blk.kept m8.kept (by simp)))
  | ((with_reducible refine a0a (o:=⟨none,.store 70 (.tmp 7) (.tmp 28),_,_,_,_⟩) a0c rfl (.tmp 7) (.tmp 28) rfl rfl rfl A7.out rfl rfl (a0u _) ?_);intro v7 b7 k7;have A8:=hjd (m8.blk.kept k7 (by simpa using fun e=>D8.out e.symm));have T9:=hjd (Pm.b0s T8.out N7.out L7.out b7 k7);clear T7 T8)
  | ((with_reducible refine a0a (o:=⟨none,.store 70 (.tmp 8) (.tmp 29),_,_,_,_⟩) a0c rfl (.tmp 8) (.tmp 29) rfl rfl rfl A8.out rfl rfl (a0u _) ?_);intro v8 b8 k8;replace t:=hjd (Pm.b0s T9.out (fun p hp=>(List.mem_cons.1 hp).elim (fun e=>by subst e;exact D8.out) (N8.out p)) L8.out b8 k8)))
 clear T9 N7 L7 N8 D8 L8 A7 A8 b7 k7 b8 k8 m7 m8;refine a2m (by kernel_rfl) [.val (el S),.val (el O1),.val (el U),.val (el S),.val (el KD),.val (el SD),.val (el O1),.val (el V),.val (.tuple #[el R,.bool true]),.val (.tuple #[el R,.bool true]),.val (el R),.val (.bool true),.new 70 (el a0j),.put 12 10 (uv (fam 5 R)).toArray,.val (.bool true)]
  (Pm w [(g8,70,(uv (fam 5 O1)).toArray),(g7,70,(uv (fam 5 S)).toArray),(g5,70,(uv (fam 5 Y)).toArray),(g2,72,pz.c.toArray),(g1,22,(bv (le X2 32)).toArray)]) (by kernel_rfl) (by kernel_rfl) t.out.drew (fun u u' T hS hk hT=>t.out.fresh u u' T hS hk hT) ?_ ?_
 ·refine⟨?_,?_,?_,?_,?_,?_,?_,?_,?_,?_,?_,?_,⟨⟨_,rfl⟩,rfl,a1b⟩,?_,?_,trivial⟩
  ·exact⟨⟨_,rfl⟩,fun a' u K0 R hS hr ho h=>a0o a0c (.tmp 7) rfl ((ho 7 (by decide)).trans rfl) (hS.s (g7,70,(uv (fam 5 S)).toArray) (by simp)) rfl (h u (Kept.refl _ _))⟩
  ·exact⟨⟨_,rfl⟩,fun a' u K0 R hS hr ho h=>a0o a0c (.tmp 8) rfl ((ho 8 (by decide)).trans rfl) (hS.s (g8,70,(uv (fam 5 O1)).toArray) (by simp)) rfl (h u (Kept.refl _ _))⟩
  ·refine⟨⟨_,rfl⟩,fun a' u K0 R hS hr ho h=>a0n rfl a2q (vs:=#[el S,el O1]) ?_ (cu.out u) h⟩;have h0:=hr 0 (el S) 31 _ rfl rfl rfl ⟨⟨0,.data⟩,by simp,rfl,rfl⟩;have h1:=hr 1 (el O1) 32 _ rfl rfl rfl ⟨⟨1,.data⟩,by simp,rfl,rfl⟩;simp [Act.eval]at h0 h1 ⊢;exact⟨h0,h1⟩
  ·exact⟨⟨_,rfl⟩,fun a' u K0 R hS hr ho h=>a0o a0c (.tmp 7) rfl ((ho 7 (by decide)).trans rfl) (hS.s (g7,70,(uv (fam 5 S)).toArray) (by simp)) rfl (h u (Kept.refl _ _))⟩
  ·exact⟨⟨_,rfl⟩,fun a' u K0 R hS hr ho h=>a0n rfl a7k (vs:=#[]) (by simp) (cd.out u) h⟩
  ·refine⟨⟨_,rfl⟩,fun a' u K0 R hS hr ho h=>a0n rfl a1e (vs:=#[el S,el KD]) ?_ (cd2.out u) h⟩;have h0:=hr 3 (el S) 34 _ rfl rfl rfl ⟨⟨3,.data⟩,by simp,rfl,rfl⟩;have h1:=hr 4 (el KD) 35 _ rfl rfl rfl ⟨⟨4,.data⟩,by simp,rfl,rfl⟩;simp [Act.eval]at h0 h1 ⊢;exact⟨h0,h1⟩
  ·exact⟨⟨_,rfl⟩,fun a' u K0 R hS hr ho h=>a0o a0c (.tmp 8) rfl ((ho 8 (by decide)).trans rfl) (hS.s (g8,70,(uv (fam 5 O1)).toArray) (by simp)) rfl (h u (Kept.refl _ _))⟩
  ·refine⟨⟨_,rfl⟩,fun a' u K0 R hS hr ho h=>a0n rfl a3p (vs:=#[el SD,el O1]) ?_ (cv.out u) h⟩;have h0:=hr 5 (el SD) 36 _ rfl rfl rfl ⟨⟨5,.data⟩,by simp,rfl,rfl⟩;have h1:=hr 6 (el O1) 37 _ rfl rfl rfl ⟨⟨6,.data⟩,by simp,rfl,rfl⟩;simp [Act.eval]at h0 h1 ⊢;exact⟨h0,h1⟩
  ·refine⟨⟨_,rfl⟩,fun a' u K0 R hS hr ho h=>a0n rfl a5w (vs:=#[el U,el V]) ?_ (cr.out u) h⟩;have h0:=hr 2 (el U) 33 _ rfl rfl rfl ⟨⟨2,.data⟩,by simp,rfl,rfl⟩;have h1:=hr 7 (el V) 38 _ rfl rfl rfl ⟨⟨7,.data⟩,by simp,rfl,rfl⟩;simp [Act.eval]at h0 h1 ⊢;exact⟨h0,h1⟩
  ·exact⟨⟨_,rfl⟩,fun a' u K0 R0 hS hr ho h=>wp_move (.tmp 39) rfl (hr 8 (.tuple #[el R,.bool true]) 39 _ rfl rfl rfl ⟨⟨8,.data⟩,by simp,rfl,rfl⟩) (h u (Kept.refl _ _))⟩
  ·exact⟨⟨_,rfl⟩,fun a' u K0 R0 hS hr ho h=>a3y (.tmp 30) 0 rfl (hr 9 (.tuple #[el R,.bool true]) 30 _ rfl rfl rfl ⟨⟨9,.data⟩,by simp,rfl,rfl⟩) rfl (h u (Kept.refl _ _))⟩
  ·exact⟨⟨_,rfl⟩,fun a' u K0 R0 hS hr ho h=>a3y (.tmp 30) 1 rfl (hr 9 (.tuple #[el R,.bool true]) 30 _ rfl rfl rfl ⟨⟨9,.data⟩,by simp,rfl,rfl⟩) rfl (h u (Kept.refl _ _))⟩
  ·exact⟨rfl,⟨⟨12,.data⟩,by simp,rfl,rfl⟩,⟨⟨10,.data⟩,by simp,rfl,rfl⟩,_,_,_,_,_,_,_,_,rfl,rfl,rfl,rfl,rfl,rfl,rfl,a0c,rfl,rfl,a0u _⟩
  ·exact⟨⟨_,rfl⟩,fun a' u K0 R0 hS hr ho h=>wp_assign (.tmp 41) rfl (hr 11 (.bool true) 41 _ rfl rfl rfl ⟨⟨11,.data⟩,by simp,rfl,rfl⟩) (h u (Kept.refl _ _))⟩
 intro γ w9 hS hγ hne hput;have b9:=hput 13 12 10 _ _ _ rfl rfl;have hf9:=hγ 12 _ _ rfl;generalize e9:γ 12=g9 at *;simp [a1f,VK,List.range,List.range.loop,Act.put,e9];have N9:=hjd (fun p hp=>Nat.ne_of_lt (Nat.lt_of_lt_of_le (t.out.s p hp).lt hf9));have L9:=hjd (Nat.le_trans t.out.k.size hf9);replace t:=hjd (show Pm w [(g9,70,(uv (fam 5 R)).toArray),(g8,70,(uv (fam 5 O1)).toArray),(g7,70,(uv (fam 5 S)).toArray),(g5,70,(uv (fam 5 Y)).toArray),(g2,72,pz.c.toArray),(g1,22,(bv (le X2 32)).toArray)] w9 from hS.cons b9);clear b9 hput hne hγ hS e9 hf9;go_wp2_with (first
  | (with_reducible refine a0d (o:=⟨some 58,_,_,_,_,_⟩) a0c rfl (.tmp 9) rfl rfl (t.out.s (g9,70,(uv (fam 5 R)).toArray) (by simp)) rfl ?_)
  | (with_reducible refine a0d (o:=⟨some 59,_,_,_,_,_⟩) a0c rfl (.tmp 5) rfl rfl (t.out.s (g5,70,(uv (fam 5 Y)).toArray) (by simp)) rfl ?_)
  | (go_at_call 89;(with_reducible refine(ca.out _).mono ?_);rintro e y1 ⟨rfl,kk⟩;replace t:=hjd (t.out.kept kk);clear kk)
  | ((with_reducible refine a0a (o:=⟨none,.store 72 (.tmp 2) (.tmp 60),_,_,_,_⟩) a0l rfl (.tmp 2) (.tmp 60) rfl rfl rfl (t.out.s (g2,72,pz.c.toArray) (by simp)) pz.size (P4.size _) (P4.one _) ?_);intro v9 b9 k9))
 exact a1j a0l rfl rfl b9 (P4.size _) rfl ⟨rfl,t.out.k.a0r k9 hl2.out⟩
theorem b8u(X:Nat)(h:b3a X=false):dcQ X=pz:=if_neg (by rw [h];exact Bool.false_ne_true)
theorem b7k(X:Nat)(h:b3a X=false):dcE X=50:=if_neg (by rw [h];exact Bool.false_ne_true)
theorem c4d(X:Nat)(h:b3a X=true):dcQ X=afQ (if dcO X then suF (smL 0) (dcR X)else dcR X) (dcY X):=if_pos h
theorem c4w(X:Nat)(h:b3a X=true):dcE X=0:=if_pos h
theorem b6m{X:Nat}{r:P4}{e:Nat}{n:Int}(hn:((e:Nat):Int)=n)(h:∀W,Calls Tryz.prog 48 #[ab (le X 32)] W fun e' w'=>e'= .returned (.tuple #[r.v,.int .i64 n])∧Kept [] W w'):DeC X r e:=by
 subst hn;exact h
theorem dec_c(X:Nat):DeC X (dcQ X) (dcE X):=by
 by_cases ho:128≤c31 X
 ·have ho2:dcO X=true:=decide_eq_true ho
  cases hn:dcN X with
  | false=>
    have hk:b3a X=false:=by unfold b3a;rw [hn,Bool.false_and]
    rw [b8u X hk,b7k X hk];exact b6m rfl (e5l X hn ho)
  | true=>
    cases hr:rtB (dcU X) (dcV X)with
    | false=>
      have hk:b3a X=false:=by unfold b3a;rw [hr,Bool.false_and,Bool.and_false]
      rw [b8u X hk,b7k X hk];exact b6m rfl (e0o X hn ho hr)
    | true=>
      cases hz:dcZ X with
      | true=>
        have hk:b3a X=false:=by unfold b3a;rw [ho2,hz,Bool.and_true,Bool.not_true,Bool.and_false,Bool.and_false]
        rw [b8u X hk,b7k X hk];exact b6m rfl (d9z X hn ho hr hz)
      | false=>
        have hk:b3a X=true:=by unfold b3a;rw [hn,hr,hz,Bool.and_false,Bool.not_false,Bool.and_true,Bool.and_true]
        rw [c4d X hk,c4w X hk,if_pos ho2];exact b6m rfl (e6y X hn ho hr hz)
 ·have ho2:dcO X=false:=decide_eq_false ho
  cases hn:dcN X with
  | false=>
    have hk:b3a X=false:=by unfold b3a;rw [hn,Bool.false_and]
    rw [b8u X hk,b7k X hk];exact b6m rfl (d9d X hn ho)
  | true=>
    cases hr:rtB (dcU X) (dcV X)with
    | false=>
      have hk:b3a X=false:=by unfold b3a;rw [hr,Bool.false_and,Bool.and_false]
      rw [b8u X hk,b7k X hk];exact b6m rfl (d4l X hn ho hr)
    | true=>
      have hk:b3a X=true:=by unfold b3a;rw [hn,hr,ho2,Bool.false_and,Bool.not_false,Bool.and_true,Bool.and_true]
      rw [c4d X hk,c4w X hk,if_neg (by rw [ho2];exact Bool.false_ne_true)];exact b6m rfl (e1f X hn ho hr)
end Go.Proofs.YtdbngnlpafcogaaGreat
namespace Go.Nt
def Pr(p:Nat):Prop:=1 < p∧∀d,d ∣ p→d=1∨d=p
theorem Pr.pos{p:Nat}(h:Pr p):0 < p:=by have:=h.1;omega
theorem Pr.cop{p a:Nat}(h:Pr p)(ha:¬p ∣ a):Nat.Coprime p a:=by
 rcases h.2 _ (Nat.gcd_dvd_left p a)with h1 | h1
 ·exact h1
 ·exact absurd (h1▸Nat.gcd_dvd_right p a) ha
theorem Pr.c8z{p a b:Nat}(h:Pr p)(hd:p ∣ a * b):p ∣ a∨p ∣ b:=by
 by_cases ha:p ∣ a
 ·exact .inl ha
 ·exact .inr ((h.cop ha).dvd_of_dvd_mul_left hd)
def ch:Nat→Nat→Nat
 | _,0=>1
 | 0,_ + 1=>0
 | n + 1,k + 1=>ch n k + ch n (k + 1)
theorem b3d(n:Nat):ch n 0=1:=by cases n <;> rfl
theorem b8m:∀n k,n < k→ch n k=0
 | 0,k + 1,_=>rfl
 | n + 1,k + 1,h=>by rw [ch,b8m n k (by omega),b8m n (k + 1) (by omega)]
theorem d6d:∀n,ch n n=1
 | 0=>rfl
 | n + 1=>by rw [ch,d6d n,b8m n (n + 1) (by omega)]
theorem c6j:∀n k,(k + 1) * ch (n + 1) (k + 1)=(n + 1) * ch n k
 | 0,0=>rfl
 | 0,k + 1=>by
   rw [show ch (0 + 1) (k + 1 + 1)=ch 0 (k + 1) + ch 0 (k + 1 + 1)from rfl,b8m 0 (k + 1) (by omega),b8m 0 (k + 1 + 1) (by omega)];simp
 | n + 1,0=>by
   have h:=c6j n 0;rw [b3d]at h;have hz:=b3d n;rw [show ch (n + 1 + 1) (0 + 1)=ch (n + 1) 0 + ch (n + 1) (0 + 1)from rfl,b3d,Nat.mul_one];omega
 | n + 1,k + 1=>by
   have h1:=c6j n k;have h2:=c6j n (k + 1);have e:ch (n + 1) (k + 1)=ch n k + ch n (k + 1):=rfl;rw [show ch (n + 1 + 1) (k + 1 + 1)=ch (n + 1) (k + 1) + ch (n + 1) (k + 1 + 1)from rfl]
   grind
def bs(n a:Nat):Nat→Nat
 | 0=>0
 | m + 1=>bs n a m + ch n m * a ^ m
theorem d5f(n a:Nat):∀m,bs (n + 1) a (m + 1)=bs n a (m + 1) + a * bs n a m
 | 0=>by simp [bs,b3d]
 | m + 1=>by
   have h:=d5f n a m;rw [bs,h,show bs n a (m + 1 + 1)=bs n a (m + 1) + ch n (m + 1) * a ^ (m + 1)from rfl,show bs n a (m + 1)=bs n a m + ch n m * a ^ m from rfl,show ch (n + 1) (m + 1)=ch n m + ch n (m + 1)from rfl]
   grind
theorem e3d(a:Nat):∀n,bs n a (n + 1)=(a + 1) ^ n
 | 0=>by simp [bs,b3d]
 | n + 1=>by
   have h:=e3d a n;rw [d5f,show bs n a (n + 1 + 1)=bs n a (n + 1) + ch n (n + 1) * a ^ (n + 1)from rfl,b8m n (n + 1) (by omega),h,Nat.pow_succ]
   grind
theorem Pr.ch{p k:Nat}(h:Pr p)(hk:0 < k)(hkp:k < p):p ∣ ch p k:=by
 obtain⟨q,rfl⟩:∃q,p=q + 1:=⟨p - 1,by have:=h.1;omega⟩;obtain⟨j,rfl⟩:∃j,k=j + 1:=⟨k - 1,by omega⟩;have:=c6j q j;rcases h.c8z (show q + 1 ∣ (j + 1) * Nt.ch (q + 1) (j + 1)from this▸Nat.dvd_mul_right _ _)with h1 | h1
 ·exact absurd (Nat.le_of_dvd (by omega) h1) (by omega)
 ·exact h1
theorem Pr.bs{p:Nat}(h:Pr p)(a:Nat):∀m,m < p→bs p a (m + 1) % p=1
 | 0,_=>by simp [Nt.bs,b3d];exact Nat.mod_eq_of_lt h.1
 | m + 1,hm=>by
   have h1:=Pr.bs h a m (by omega);obtain⟨c,hc⟩:=h.ch (k:=m + 1) (by omega) hm;rw [Nt.bs,hc,Nat.mul_assoc,Nat.add_mul_mod_self_left,h1]
theorem Pr.succ{p:Nat}(h:Pr p)(a:Nat):(a + 1) ^ p % p=(a ^ p + 1) % p:=by
 obtain⟨q,rfl⟩:∃q,p=q + 1:=⟨p - 1,by have:=h.1;omega⟩;have h1:=h.bs a q (by omega);rw [←e3d,show Nt.bs (q + 1) a (q + 1 + 1)=Nt.bs (q + 1) a (q + 1) + Nt.ch (q + 1) (q + 1) * a ^ (q + 1)from rfl,d6d,Nat.one_mul,Nat.add_mod,h1,Nat.add_comm (a ^ (q + 1)) 1];rw [Nat.add_mod 1 (a ^ (q + 1)),Nat.mod_eq_of_lt h.1]
theorem Pr.e3p{p:Nat}(h:Pr p):∀a,a ^ p % p=a % p
 | 0=>by rw [Nat.zero_pow h.pos]
 | a + 1=>by rw [h.succ a,Nat.add_mod,Pr.e3p h a,←Nat.add_mod]
theorem d7m{p a b:Nat}(h:a % p=b % p)(hb:b≤a):p ∣ a - b:=by
 refine⟨a / p - b / p,?_⟩;have h1:=Nat.div_add_mod a p;have h2:=Nat.div_add_mod b p;rw [Nat.mul_sub];omega
theorem Pr.b3w{p a:Nat}(h:Pr p)(ha:a % p≠0):a ^ (p - 1) % p=1:=by
 have hna:¬p ∣ a:=fun hd=>ha (Nat.mod_eq_zero_of_dvd hd)
 have hpos:0 < a:=Nat.pos_of_ne_zero fun e=>ha (by rw [e,Nat.zero_mod])
 have h1:=h.e3p a;have e:a ^ p=a * a ^ (p - 1):=by
  obtain⟨q,rfl⟩:∃q,p=q + 1:=⟨p - 1,by have:=h.1;omega⟩;rw [Nat.pow_succ,Nat.mul_comm];rfl
 have hp1:1≤a ^ (p - 1):=Nat.pow_pos hpos;have hd:p ∣ a * (a ^ (p - 1) - 1):=by
  rw [Nat.mul_sub,Nat.mul_one,←e];exact d7m h1 (by rw [e];exact Nat.le_mul_of_pos_right a hp1)
 obtain⟨c,hc⟩:=(h.c8z hd).resolve_left hna;have:a ^ (p - 1)=1 + p * c:=by omega
 rw [this,Nat.add_mul_mod_self_left,Nat.mod_eq_of_lt h.1]
theorem d9i{p h a b:Nat}(hp:1 < p)(ha:h ^ a % p=1):h ^ (a * b) % p=1:=by
 rw [Nat.pow_mul,Nat.pow_mod,ha,Nat.one_pow,Nat.mod_eq_of_lt hp]
theorem one_gcd{p h:Nat}(hp:1 < p):∀a b,h ^ a % p=1→h ^ b % p=1→h ^ (Nat.gcd a b) % p=1:=by
 intro a b
 induction a,b using Nat.gcd.induction with
 | H0 b=>intro _ h2;simpa using h2
 | H1 a b ha ih=>
   intro h1 h2;rw [Nat.gcd_rec];refine ih ?_ h1;have e:=Nat.div_add_mod b a;rw [←e,Nat.pow_add,Nat.mul_mod,d9i hp h1,Nat.one_mul,Nat.mod_mod]at h2;exact h2
theorem c2k:∀n,1 < n→∃p,Pr p∧p ∣ n:=by
 intro n
 induction n using Nat.strongRecOn with
 | _ n ih=>
   intro h;by_cases hp:Pr n
   ·exact⟨n,hp,Nat.dvd_refl _⟩
   ·obtain⟨d,hd,h1,h2⟩:∃d,d ∣ n∧d≠1∧d≠n:=Classical.byContradiction fun hn=>hp ⟨h,fun d hd=>by
     by_cases e1:d=1
     ·exact .inl e1
     ·by_cases e2:d=n
      ·exact .inr e2
      ·exact absurd ⟨d,hd,e1,e2⟩ hn⟩
    have hle:=Nat.le_of_dvd (by omega) hd;have h0:d≠0:=fun e=>by subst e;have:=Nat.eq_zero_of_zero_dvd hd;omega
    obtain⟨p,hp,hpd⟩:=ih d (by omega) (by omega);exact⟨p,hp,Nat.dvd_trans hpd hd⟩
theorem e6p{n:Nat}(h1:1 < n)(h:∀p,Pr p→p ∣ n→n < p * p):Pr n:=by
 refine⟨h1,fun d hd=>?_⟩;obtain⟨e,he⟩:=hd;by_cases d1:d=1
 ·exact .inl d1
 ·by_cases e1:e=1
  ·exact .inr (by rw [he,e1,Nat.mul_one])
  ·exfalso
   have hd0:0 < d:=Nat.pos_of_ne_zero fun hz=>by rw [hz,Nat.zero_mul]at he;omega
   have he0:0 < e:=Nat.pos_of_ne_zero fun hz=>by rw [hz,Nat.mul_zero]at he;omega
   obtain⟨p,hp,hpd⟩:=c2k d (by omega);obtain⟨q,hq,hqe⟩:=c2k e (by omega);have l1:=h p hp (he▸Nat.dvd_trans hpd (Nat.dvd_mul_right _ _));have l2:=h q hq (he▸Nat.dvd_trans hqe (Nat.dvd_mul_left _ _));have l3:=Nat.le_of_dvd hd0 hpd;have l4:=Nat.le_of_dvd he0 hqe;rcases Nat.le_total d e with hde | hde
   ·have:=Nat.mul_le_mul l3 l3;have:=Nat.mul_le_mul_left d hde;omega
   ·have:=Nat.mul_le_mul l4 l4;have:=Nat.mul_le_mul_right e hde;omega
theorem pock{n q g p:Nat}(hq:Pr q)(hqn:n - 1=(n - 1) / q * q)(h1:g ^ (n - 1) % n=1)(h2:Nat.gcd (g ^ ((n - 1) / q) % n + n - 1) n=1)(hp:Pr p)(hpn:p ∣ n)(hn:1 < n):q ∣ p - 1:=by
 obtain⟨h,hh⟩:∃h,h=g ^ ((n - 1) / q):=⟨_,rfl⟩;rw [←hh]at h2;have hq1:h ^ q % p=1:=by
  rw [hh,←Nat.pow_mul,←hqn,←Nat.mod_mod_of_dvd _ hpn,h1,Nat.mod_eq_of_lt hp.1]
 have hne:h % p≠1:=by
  intro e;have hd:p ∣ h % n + n - 1:=by
   have e2:(h % n + n) % p=1 % p:=by
    rw [Nat.add_mod,Nat.mod_mod_of_dvd _ hpn,e,Nat.mod_eq_zero_of_dvd hpn,Nat.add_zero]
   exact d7m e2 (by omega)
  have:=Nat.dvd_gcd hd hpn;rw [h2]at this;have:=Nat.le_of_dvd (by omega) this;have:=hp.1;omega
 have hh0:h % p≠0:=by
  intro e;rw [Nat.pow_mod,e,Nat.zero_pow hq.pos,Nat.zero_mod]at hq1
  cases hq1
 have hf:=hp.b3w hh0;by_cases hd:q ∣ p - 1
 ·exact hd
 ·exfalso
  have hg:=one_gcd hp.1 q (p - 1) hq1 hf;rw [show Nat.gcd q (p - 1)=1 from hq.cop hd,Nat.pow_one]at hg;exact hne hg
theorem e4f{a b m:Nat}(ha:Pr a)(hb:Pr b)(hne:a≠b)(h1:a ∣ m)(h2:b ∣ m):a * b ∣ m:=by
 refine Nat.Coprime.mul_dvd_of_dvd_of_dvd (ha.cop fun hd=>?_) h1 h2;rcases hb.2 a hd with e | e
 ·have:=ha.1;omega
 ·exact hne e
def pm(n:Nat):Nat→Nat→Nat→Nat
 | 0,_,_=>1 % n
 | f + 1,b,e=>if e % 2=1 then pm n f (b * b % n) (e / 2) * b % n else pm n f (b * b % n) (e / 2)
theorem e4z(n:Nat):∀f b e,e < 2 ^ f→pm n f b e=b ^ e % n
 | 0,b,e,h=>by
   obtain rfl:e=0:=by simpa using h
   simp [pm]
 | f + 1,b,e,h=>by
   have h2:e / 2 < 2 ^ f:=by rw [Nat.pow_succ]at h;omega
   have ih:=e4z n f (b * b % n) (e / 2) h2;have e1:(b * b % n) ^ (e / 2) % n=b ^ (2 * (e / 2)) % n:=by rw [←Nat.pow_mod,Nat.pow_mul,Nat.pow_two]
   unfold pm;rw [ih,e1];split
   ·rename_i ho
    conv=>rhs;rw [show e=2 * (e / 2) + 1 from by omega,Nat.pow_succ]
    rw [Nat.mod_mul_mod]
   ·rename_i ho
    conv=>rhs;rw [show e=2 * (e / 2)from by omega]
def okQ(f n q g:Nat):Bool:=(n - 1) % q == 0 && pm n f g (n - 1) == 1 && Nat.gcd (pm n f g ((n - 1) / q) + n - 1) n == 1
theorem c0o{f n q g p:Nat}(hq:Pr q)(hf:n < 2 ^ f)(h:okQ f n q g=true)(hn:1 < n)(hp:Pr p)(hpn:p ∣ n):q ∣ p - 1:=by
 simp only [okQ,Bool.and_eq_true,beq_iff_eq]at h;obtain⟨⟨h0,h1⟩,h2⟩:=h;have hle:=Nat.div_le_self (n - 1) q;rw [e4z n f g _ (by omega)]at h1 h2;exact pock hq (by have:=Nat.div_add_mod (n - 1) q;rw [h0,Nat.mul_comm]at this;omega) h1 h2 hp hpn hn
theorem b8s{n q:Nat}(f g:Nat)(hq:Pr q)(hf:n < 2 ^ f)(h:okQ f n q g=true)(hn:1 < n)(hs:n < (q + 1) * (q + 1)):Pr n:=by
 refine e6p hn fun p hp hpn=>?_
 have hd:=c0o hq hf h hn hp hpn;have:=hp.1;have:=Nat.le_of_dvd (by omega) hd;have:=Nat.mul_le_mul (show q + 1≤p by omega) (show q + 1≤p by omega);omega
theorem c3l{n q r:Nat}(f g g2:Nat)(hq:Pr q)(hr:Pr r)(hne:q≠r)(hf:n < 2 ^ f)(h:okQ f n q g=true)(h2:okQ f n r g2=true)(hn:1 < n)(hs:n < (q * r + 1) * (q * r + 1)):Pr n:=by
 refine e6p hn fun p hp hpn=>?_
 have hd:=e4f hq hr hne (c0o hq hf h hn hp hpn) (c0o hr hf h2 hn hp hpn);have:=hp.1;have:=Nat.le_of_dvd (by omega) hd;have:=Nat.mul_le_mul (show q * r + 1≤p by omega) (show q * r + 1≤p by omega);omega
theorem a8i{n:Nat}(k:Nat)(hn:1 < n)(hk:n < k * k)(h:((List.range k).all fun d=>d < 2 || n % d !=0)=true):Pr n:=by
 refine e6p hn fun p hp hpn=>?_
 rcases Nat.lt_or_ge p k with hlt | hge
 ·exfalso
  have:=List.all_eq_true.1 h p (by simpa using hlt);have hp1:=hp.1;simp at this;rcases this with h1 | h1
  ·omega
  ·exact h1 (Nat.mod_eq_zero_of_dvd hpn)
 ·have:=Nat.mul_le_mul hge hge;omega
theorem pr127:Pr 127:=a8i 12 (by decide) (by decide) (by decide +kernel)
theorem pr4153:Pr 4153:=a8i 65 (by decide) (by decide) (by decide +kernel)
theorem e4a:Pr 75707:=a8i 276 (by decide) (by decide) (by decide +kernel)
theorem d9x:Pr 430751:=a8i 657 (by decide) (by decide) (by decide +kernel)
theorem d6k:Pr 8574133:=a8i 2929 (by decide) (by decide) (by decide +kernel)
theorem pr_c:Pr 1919519569386763:=c3l 51 2 2 d6k pr127 (by decide) (by decide +kernel) (by decide +kernel) (by decide +kernel) (by decide) (by decide)
theorem pr_a:Pr 31757755568855353:=c3l 55 2 5 d9x pr4153 (by decide) (by decide +kernel) (by decide +kernel) (by decide +kernel) (by decide) (by decide)
theorem pr_b:Pr 75445702479781427272750846543864801:=c3l 116 2 7 pr_c e4a (by decide) (by decide +kernel) (by decide +kernel) (by decide +kernel) (by decide) (by decide)
theorem pr_r:Pr 74058212732561358302231226437062788676166966415465897661863160754340907:=c3l 236 2 2 pr_a pr_b (by decide) (by decide +kernel) (by decide +kernel) (by decide +kernel) (by decide) (by decide)
theorem pr_P:Pr 57896044618658097711785492504343953926634992332820282019728792003956564819949:=b8s 255 2 pr_r (by decide +kernel) (by decide +kernel) (by decide) (by decide)
end Go.Nt
namespace Go.Proofs.YtdbngnlpafcogaaGreat
open Go.RowKit Go.Mem Go.Txt
def sbM(x y:Nat):Nat:=x + (PP - y % PP)
theorem Rep.ad{F G:Nat→Nat}{x y:Nat}(h:Rep F x)(h2:Rep G y):Rep (adF F G) (x + y):=h.add h2
theorem e2z(x y:Nat):(sbM x y + y) % PP=x % PP:=by
 unfold sbM;have hp:=a3l;have hm:=Nat.mod_lt y hp;have hd:=Nat.div_add_mod y PP;rw [show x + (PP - y % PP) + y=x + PP * (1 + y / PP)from by rw [Nat.mul_add];omega,Nat.add_mul_mod_self_left]
theorem Rep.su{F G:Nat→Nat}{x y:Nat}(h:Rep F x)(h2:Rep G y):Rep (suF F G) (sbM x y):=h.sub h2 (e2z x y)
theorem Rep.m{F G:Nat→Nat}{x y:Nat}(h:Rep F x)(h2:Rep G y):Rep (mlF F G) (x * y):=⟨(h.ml h2).lim,by rw [(h.ml h2).val];exact Nat.mod_mod _ _⟩
theorem Rep.to{F:Nat→Nat}{x y:Nat}(h:Rep F x)(e:x % PP=y % PP):Rep F y:=⟨h.lim,h.val.trans e⟩
theorem PP_pr:Go.Nt.Pr PP:=by
 have:=Go.Nt.pr_P;unfold PP;exact this
theorem mm{a b c d:Nat}(h:a % PP=b % PP)(h2:c % PP=d % PP):a * c % PP=b * d % PP:=by rw [Nat.mul_mod,h,h2,←Nat.mul_mod]
theorem mp{a b:Nat}(h:a % PP=b % PP)(n:Nat):a ^ n % PP=b ^ n % PP:=by rw [Nat.pow_mod,h,←Nat.pow_mod]
theorem ma{a b c d:Nat}(h:a % PP=b % PP)(h2:c % PP=d % PP):(a + c) % PP=(b + d) % PP:=by rw [Nat.add_mod,h,h2,←Nat.add_mod]
theorem b0y(x y:Nat):mlM x y % PP=x * y % PP:=Nat.mod_mod _ _
theorem c2m{x n:Nat}(h:x % PP=0)(hn:0 < n):x ^ n % PP=0:=by
 obtain⟨m,rfl⟩:∃m,n=m + 1:=⟨n - 1,by omega⟩;rw [Nat.pow_succ,Nat.mul_mod,h,Nat.mul_zero,Nat.zero_mod]
def EE:Nat:=28948022309329048855892746252171976963317496166410141009864396001978282409974
theorem EE_two:PP - 1=EE + EE:=by decide +kernel
theorem b3w{x:Nat}(h:x % PP≠0):x ^ (PP - 1) % PP=1:=PP_pr.b3w h
theorem d2i(x:Nat):b7s x % PP=x ^ (PP - 2) % PP:=by
 have h:Pw x (PP - 2) (b7s x):=(e5x x).to (by decide +kernel);exact h
theorem inv_mul{x:Nat}(h:x % PP≠0):x * b7s x % PP=1:=by
 rw [mm rfl (d2i x),Nat.mul_comm,←Nat.pow_succ,show(PP - 2).succ=PP - 1 from by decide +kernel];exact b3w h
theorem inv_zero{x:Nat}(h:x % PP=0):b7s x % PP=0:=by
 rw [d2i];exact c2m h (by decide +kernel)
theorem b8d{x y:Nat}(h:x * y % PP=1):y % PP≠0:=fun e=>by
 rw [Nat.mul_mod,e,Nat.mul_zero,Nat.zero_mod]at h;omega
theorem inv_inv{x:Nat}(h:x % PP≠0):b7s (b7s x) % PP=x % PP:=by
 have h1:=inv_mul h;have h2:=inv_mul (b8d h1);have e1:x * (b7s x * b7s (b7s x)) % PP=x * 1 % PP:=mm rfl (h2.trans (by decide +kernel));have e2:x * b7s x * b7s (b7s x) % PP=1 * b7s (b7s x) % PP:=mm (h1.trans (by decide +kernel)) rfl;rw [Nat.mul_one]at e1;rw [Nat.one_mul]at e2;rw [←e1,←e2,Nat.mul_assoc]
theorem eq_sq{a b:Nat}(h:a * a % PP=b * b % PP):a % PP=b % PP∨(a + b) % PP=0:=by
 obtain⟨n,hn⟩:∃n,n=PP - b % PP:=⟨_,rfl⟩;have hp:=a3l;have hb:=Nat.mod_lt b hp;have hd:=Nat.div_add_mod b PP;have hnb:n + b=PP * (1 + b / PP):=by rw [Nat.mul_add];omega
 have key:(a + n) * (a + b) % PP=0:=by
  have e:(a + n) * (a + b)=a * a + (a * (n + b) + n * b):=by grind
  have e2:(a * a + (a * (n + b) + n * b)) % PP=(b * b + (a * (n + b) + n * b)) % PP:=ma h rfl;rw [e,e2,show b * b + (a * (n + b) + n * b)=(a + b) * (n + b)from by grind,hnb,←Nat.mul_assoc,Nat.mul_comm (a + b) PP,Nat.mul_assoc,Nat.mul_mod_right]
 rcases PP_pr.c8z (Nat.dvd_of_mod_eq_zero key)with h1 | h1
 ·left
  have h2:=Nat.mod_eq_zero_of_dvd h1;have h3:(a + n + b) % PP=b % PP:=by rw [Nat.add_mod,h2,Nat.zero_add,Nat.mod_mod]
  rw [Nat.add_assoc,hnb,Nat.add_mul_mod_self_left]at h3;exact h3
 ·exact .inr (Nat.mod_eq_zero_of_dvd h1)
theorem M1_sq:M1 * M1 % PP=PP - 1:=by decide +kernel
theorem d8n{t w:Nat}(h:(t * t + w) % PP=0):t * M1 * (t * M1) % PP=w % PP:=by
 have e:t * M1 * (t * M1)=t * t * (M1 * M1):=by grind
 have e2:t * t * (M1 * M1) % PP=t * t * (PP - 1) % PP:=mm rfl (by rw [M1_sq];exact(Nat.mod_eq_of_lt (by decide +kernel)).symm);rw [e,e2];have e3:(t * t * (PP - 1) + (t * t + w)) % PP=t * t * (PP - 1) % PP:=by rw [Nat.add_mod,h,Nat.add_zero,Nat.mod_mod]
 rw [←e3,show t * t * (PP - 1) + (t * t + w)=w + PP * (t * t)from by
  have:PP=(PP - 1) + 1:=by decide +kernel
  generalize PP - 1=q at *;rw [this];grind,Nat.add_mul_mod_self_left]
def TE:Nat:=7237005577332262213973186563042994240829374041602535252466099000494570602494
theorem d4o(w:Nat):c5v w % PP=w ^ TE % PP:=by
 have h:Pw w TE (c5v w):=(e6k w).to (by decide +kernel);exact h
theorem e0q{w:Nat}(h:w ^ EE % PP=1):c5v w * c5v w * (c5v w * c5v w) % PP=w * w % PP:=by
 have e:=d4o w;rw [mm (mm e e) (mm e e),←Nat.pow_add,←Nat.pow_add];rw [show(TE + TE) + (TE + TE)=EE + 2 from by decide +kernel,Nat.pow_add,Nat.mul_mod,h,Nat.one_mul,Nat.mod_mod];congr 1;exact Nat.pow_two w
theorem x1_yes{u v:Nat}(h:wM u v ^ EE % PP=1∨wM u v % PP=0):x1M u v * x1M u v % PP=wM u v % PP:=by
 unfold x1M;rw [b0y];generalize wM u v=w at *;by_cases h2:c5v w * c5v w % PP=w % PP
 ·rw [if_pos h2];exact h2
 ·rw [if_neg h2];rcases h with h | h
  ·rw [mm (b0y _ _) (b0y _ _)];rcases eq_sq (e0q h)with h3 | h3
   ·exact absurd h3 h2
   ·exact d8n h3
  ·exfalso
   apply h2;have:c5v w % PP=0:=by rw [d4o];exact c2m h (by decide)
   rw [h,Nat.mul_mod,this,Nat.zero_mul,Nat.zero_mod]
theorem sq_pow{x w:Nat}(h:x * x % PP=w % PP):w ^ EE % PP=1∨w % PP=0:=by
 by_cases hx:x % PP=0
 ·right
  rw [←h,Nat.mul_mod,hx,Nat.zero_mul,Nat.zero_mod]
 ·left
  rw [←mp h EE,Nat.mul_pow,←Nat.pow_add,←EE_two];exact b3w hx
theorem okM_sq{u v:Nat}(h:okM u v=true):v % PP≠0∧x1M u v * x1M u v % PP=wM u v % PP:=by
 unfold okM at h;rw [Bool.and_eq_true,decide_eq_true_eq,decide_eq_true_eq,b0y]at h;exact h
theorem neg_sq(x:Nat):e2m x * e2m x % PP=x * x % PP:=by
 have hp:=a3l;have hb:=Nat.mod_lt x hp;have hd:=Nat.div_add_mod x PP;obtain⟨n,hn⟩:∃n,n=e2m x:=⟨_,rfl⟩;have hnb:n + x=PP * (1 + x / PP):=by rw [hn,e2m,Nat.mul_add];omega
 rw [←hn];have e1:(n * n + n * x) % PP=0:=by rw [←Nat.mul_add,hnb,←Nat.mul_assoc,Nat.mul_comm n PP,Nat.mul_assoc,Nat.mul_mod_right]
 have e2:(x * x + n * x) % PP=0:=by rw [←Nat.add_mul,Nat.add_comm x n,hnb,Nat.mul_assoc,Nat.mul_mod_right]
 have e3:(n * n + n * x + x * x) % PP=x * x % PP:=by rw [Nat.add_mod,e1,Nat.zero_add,Nat.mod_mod]
 have e4:(x * x + n * x + n * n) % PP=n * n % PP:=by rw [Nat.add_mod,e2,Nat.zero_add,Nat.mod_mod]
 rw [←e3,←e4];congr 1;omega
theorem rt_sq(u v:Nat):rtM u v * rtM u v % PP=x1M u v * x1M u v % PP:=by
 unfold rtM;split
 ·exact neg_sq _
 ·rfl
theorem e7p(u v:Nat):rtM u v % PP % 2=0:=by
 have hp:=a3l;have hb:=Nat.mod_lt (x1M u v) hp;unfold rtM;split
 ·rename_i h
  unfold e2m;have h0:0 < x1M u v % PP:=by omega
  rw [Nat.mod_eq_of_lt (show PP - x1M u v % PP < PP by omega)];have:PP % 2=1:=by decide +kernel
  omega
 ·omega
theorem d4k{u v:Nat}(h:okM u v=true):rtM u v * rtM u v * v % PP=u % PP:=by
 obtain⟨hv,hs⟩:=okM_sq h;have e1:rtM u v * rtM u v * v % PP=wM u v * v % PP:=mm ((rt_sq u v).trans hs) rfl;have e2:wM u v * v % PP=u * (v * b7s v) % PP:=by
  unfold wM;rw [mm (b0y _ _) rfl];congr 1
  grind
 rw [e1,e2,mm rfl ((inv_mul hv).trans (show 1=1 % PP by decide +kernel)),Nat.mul_one]
end Go.Proofs.YtdbngnlpafcogaaGreat
namespace Go.Ed
def p:Nat:=57896044618658097711785492504343953926634992332820282019728792003956564819949
theorem p_pr:Go.Nt.Pr p:=Go.Nt.pr_P
theorem p_pos:0 < p:=by decide
structure Fq where
 v:Nat
 lt:v < p
theorem Fq.ext{a b:Fq}(h:a.v=b.v):a=b:=by cases a;cases b;simp_all
def mk(n:Nat):Fq:=⟨n % p,Nat.mod_lt _ p_pos⟩
theorem e8k(n:Nat):(mk n).v=n % p:=rfl
theorem mk_eq{m n:Nat}:mk m=mk n↔m % p=n % p:=⟨fun h=>congrArg Fq.v h,fun h=>Fq.ext h⟩
theorem a4r(a:Fq):∃n,a=mk n:=⟨a.v,Fq.ext (Nat.mod_eq_of_lt a.lt).symm⟩
def add(a b:Fq):Fq:=mk (a.v + b.v)
def mul(a b:Fq):Fq:=mk (a.v * b.v)
def neg(a:Fq):Fq:=mk (p - a.v)
def npow(a:Fq):Nat→Fq
 | 0=>mk 1
 | n + 1=>mul (npow a n) a
theorem a3d(m n:Nat):add (mk m) (mk n)=mk (m + n):=mk_eq.2 (by rw [e8k,e8k,←Nat.add_mod])
theorem a2s(m n:Nat):mul (mk m) (mk n)=mk (m * n):=mk_eq.2 (by rw [e8k,e8k,←Nat.mul_mod])
theorem c6b(n:Nat):add (neg (mk n)) (mk n)=mk 0:=by
 have h:=(mk n).lt;unfold neg;obtain⟨r,hr⟩:∃r,r=(mk n).v:=⟨_,rfl⟩;have e:mk n=mk r:=by rw [hr];exact(mk_eq.2 (Nat.mod_mod _ _)).symm
 rw [←hr,e,a3d];apply mk_eq.2;rw [show p - r + r=p from by omega,Nat.mod_self,Nat.zero_mod]
theorem b1n{a b:Fq}(h:add a b=mk 0):a=neg b:=by
 obtain⟨m,rfl⟩:=a4r a;obtain⟨n,rfl⟩:=a4r b;have h2:=c6b n;obtain⟨k,hk⟩:=a4r (neg (mk n));rw [hk]at h2 ⊢;rw [a3d]at h h2;have e1:mk (m + n + k)=mk k:=by rw [←a3d,h,a3d,Nat.zero_add]
 have e2:mk (m + n + k)=mk m:=by rw [show m + n + k=m + (k + n)from by omega,←a3d,h2,a3d,Nat.add_zero]
 rw [←e2,e1]
def cast(z:Int):Fq:=match z with | .ofNat n=>mk n | .negSucc n=>neg (mk (n + 1))
theorem d4v:neg (mk 0)=mk 0:=(b1n (by rw [a3d])).symm
theorem d9e(a:Fq):neg (neg a)=a:=by
 refine(b1n ?_).symm;obtain⟨n,rfl⟩:=a4r a;have h:=c6b n;obtain⟨k,hk⟩:=a4r (neg (mk n));rw [hk]at h ⊢;rw [a3d]at h ⊢;rw [Nat.add_comm];exact h
theorem c7r(z:Int):cast (-z)=neg (cast z):=by
 cases z with
 | ofNat n=>cases n with
   | zero=>exact d4v.symm
   | succ n=>rfl
 | negSucc n=>exact(d9e _).symm
theorem e0t(a b:Fq):mul (neg a) b=neg (mul a b):=by
 refine b1n ?_;obtain⟨m,rfl⟩:=a4r a;obtain⟨n,rfl⟩:=a4r b;have h:=c6b m;obtain⟨k,hk⟩:=a4r (neg (mk m));rw [hk]at h ⊢;rw [a3d]at h;rw [a2s,a2s,a3d,←Nat.add_mul,←a2s,h,a2s,Nat.zero_mul]
instance:Lean.Grind.CommRing Fq where
 add:=add
 mul:=mul
 natCast:=⟨mk⟩
 ofNat n:=⟨mk n⟩
 nsmul:=⟨fun n a=>mul (mk n) a⟩
 npow:=⟨npow⟩
 neg:=neg
 sub a b:=add a (neg b)
 intCast:=⟨cast⟩
 zsmul:=⟨fun z a=>mul (cast z) a⟩
 add_zero a:=by obtain⟨n,rfl⟩:=a4r a;exact a3d n 0
 add_comm a b:=by obtain⟨m,rfl⟩:=a4r a;obtain⟨n,rfl⟩:=a4r b;exact(a3d m n).trans ((congrArg mk (Nat.add_comm m n)).trans (a3d n m).symm)
 add_assoc a b c:=by
  obtain⟨m,rfl⟩:=a4r a;obtain⟨n,rfl⟩:=a4r b;obtain⟨k,rfl⟩:=a4r c;show add (add (mk m) (mk n)) (mk k)=add (mk m) (add (mk n) (mk k));rw [a3d,a3d,a3d,a3d,Nat.add_assoc]
 mul_assoc a b c:=by
  obtain⟨m,rfl⟩:=a4r a;obtain⟨n,rfl⟩:=a4r b;obtain⟨k,rfl⟩:=a4r c;show mul (mul (mk m) (mk n)) (mk k)=mul (mk m) (mul (mk n) (mk k));rw [a2s,a2s,a2s,a2s,Nat.mul_assoc]
 mul_one a:=by obtain⟨n,rfl⟩:=a4r a;exact(a2s n 1).trans (congrArg mk (Nat.mul_one n))
 mul_comm a b:=by obtain⟨m,rfl⟩:=a4r a;obtain⟨n,rfl⟩:=a4r b;exact(a2s m n).trans ((congrArg mk (Nat.mul_comm m n)).trans (a2s n m).symm)
 left_distrib a b c:=by
  obtain⟨m,rfl⟩:=a4r a;obtain⟨n,rfl⟩:=a4r b;obtain⟨k,rfl⟩:=a4r c;show mul (mk m) (add (mk n) (mk k))=add (mul (mk m) (mk n)) (mul (mk m) (mk k));rw [a3d,a2s,a2s,a2s,a3d,Nat.mul_add]
 one_mul a:=by obtain⟨n,rfl⟩:=a4r a;exact(a2s 1 n).trans (congrArg mk (Nat.one_mul n))
 right_distrib a b c:=by
  obtain⟨m,rfl⟩:=a4r a;obtain⟨n,rfl⟩:=a4r b;obtain⟨k,rfl⟩:=a4r c;show mul (add (mk m) (mk n)) (mk k)=add (mul (mk m) (mk k)) (mul (mk n) (mk k));rw [a3d,a2s,a2s,a2s,a3d,Nat.add_mul]
 mul_zero a:=by obtain⟨n,rfl⟩:=a4r a;exact(a2s n 0).trans (congrArg mk (Nat.mul_zero n))
 zero_mul a:=by obtain⟨n,rfl⟩:=a4r a;exact(a2s 0 n).trans (congrArg mk (Nat.zero_mul n))
 pow_zero _:=rfl
 pow_succ _ _:=rfl
 ofNat_succ n:=(a3d n 1).symm
 neg_add_cancel a:=by obtain⟨n,rfl⟩:=a4r a;exact c6b n
 sub_eq_add_neg _ _:=rfl
 neg_zsmul z a:=by
  show mul (cast (-z)) a=neg (mul (cast z) a);rw [c7r,e0t]
 intCast_neg z:=c7r z
theorem d2z:(0:Fq)=mk 0:=rfl
theorem one_mk:(1:Fq)=mk 1:=rfl
@[irreducible] def pe:Nat:=p - 2
theorem e6h:pe.succ=p - 1:=by unfold pe;decide +kernel
theorem pe_pos:0 < pe:=by unfold pe;decide +kernel
def inv(a:Fq):Fq:=mk (a.v ^ pe)
theorem a8n(a:Fq)(h:a≠0):a * inv a=1:=by
 obtain⟨n,rfl⟩:=a4r a;show mul (mk n) (mk ((mk n).v ^ pe))=mk 1;rw [a2s];apply mk_eq.2;have hn:n % p≠0:=fun e=>h (mk_eq.2 (by rw [e,Nat.zero_mod]))
 have hf:=p_pr.b3w hn;rw [Nat.mul_mod,e8k,←Nat.pow_mod,←Nat.mul_mod,Nat.mul_comm,←Nat.pow_succ,e6h,hf];exact(Nat.mod_eq_of_lt (by decide +kernel)).symm
theorem inv_of{a:Fq}(h:a.v=0):inv a=mk 0:=by unfold inv;rw [h,Nat.zero_pow pe_pos]
theorem c9e:(0:Fq).v=0:=Nat.zero_mod p
theorem b5r:inv 0=0:=(inv_of c9e).trans d2z.symm
theorem a3t{a b:Fq}(h:a * b=0):a=0∨b=0:=by
 by_cases ha:a=0
 ·exact .inl ha
 ·right
  have h1:=a8n a ha;have:inv a * (a * b)=b:=by grind
  rw [h]at this
  grind
theorem d9j(a:Fq):inv (inv a)=a:=by
 by_cases ha:a=0
 ·rw [ha,b5r,b5r]
 ·have h1:=a8n a ha;have hi:inv a≠0:=fun e=>by
   rw [e]at h1;have:(0:Fq)=1:=by grind
   rw [d2z,one_mk,mk_eq]at this;exact absurd this (by decide +kernel)
  have h2:=a8n _ hi
  grind
def zpow(a:Fq)(z:Int):Fq:=match z with | .ofNat n=>npow a n | .negSucc n=>inv (npow a (n + 1))
instance:Lean.Grind.Field Fq where
 inv:=inv
 div a b:=a * inv b
 zpow:=⟨zpow⟩
 div_eq_mul_inv _ _:=rfl
 zero_ne_one:=fun h=>absurd (mk_eq.1 h) (by decide +kernel)
 inv_zero:=b5r
 mul_inv_cancel h:=a8n _ h
 zpow_zero _:=rfl
 zpow_succ _ _:=rfl
 zpow_neg a z:=by
  show zpow a (-z)=inv (zpow a z)
  cases z with
  | ofNat n=>cases n with
    | zero=>
      show mk 1=inv (mk 1);have h:(mk 1:Fq)≠0:=fun h=>absurd (mk_eq.1 h) (by decide +kernel)
      have h1:=a8n (mk 1) h;have e:(mk 1:Fq)=1:=rfl;rw [e]at h1 ⊢
      grind
    | succ n=>rfl
  | negSucc n=>exact(d9j _).symm
end Go.Ed
namespace Go.Ed
def onC(d x y:Fq):Prop:=y * y - x * x=1 + d * x * x * y * y
theorem e2y:(2:Fq)≠0:=fun h=>absurd (mk_eq.1 (show mk 2=mk 0 from h)) (by decide +kernel)
theorem b8d:(1:Fq)≠0:=fun h=>absurd (mk_eq.1 (show mk 1=mk 0 from h)) (by decide +kernel)
theorem a3b{a b:Fq}(ha:a≠0)(hb:b≠0):a * b≠0:=fun h=>(a3t h).elim ha hb
theorem e3g{d x1 y1 x2 y2 i e:Fq}(h1:onC d x1 y1)(h2:onC d x2 y2)(hi:i * i= -1)(he:e * e=1)(ht:d * x1 * x2 * y1 * y2=e) :
 (i * x1 + e * y1) * (i * x1 + e * y1)=d * (x1 * y1 * (i * x2 + y2)) * (x1 * y1 * (i * x2 + y2)):=by
 unfold onC at h1 h2
 grind
theorem e3a{d a b:Fq}(hb:b≠0)(h:a * a=d * b * b):a * inv b * (a * inv b)=d:=by
 have:=a8n b hb
 grind
theorem complete{d x1 y1 x2 y2 i e:Fq}(h1:onC d x1 y1)(h2:onC d x2 y2)(hd:∀z:Fq,z * z≠d)(hi:i * i= -1)(he:e * e=1):d * x1 * x2 * y1 * y2≠e:=by
 intro ht;have hne:e≠0:=fun h=>b8d (by rw [h]at he;grind)
 have hxy:x1 * y1≠0:=fun h=>hne (by rw [←ht];grind)
 have hy2:y2≠0:=fun h=>hne (by rw [←ht,h];grind)
 by_cases hu:i * x2 + y2=0
 ·have hv:i * x2 + -y2≠0:=fun h=>by
   have:(2:Fq) * y2=0:=by grind
   exact a3b e2y hy2 this
  have h3:onC d x2 (-y2):=by unfold onC at h2 ⊢;grind
  have he2:(-e) * (-e)=1:=by grind
  have k:=e3g h1 h3 hi he2 (by grind);exact hd _ (e3a (a3b hxy hv) k)
 ·have k:=e3g h1 h2 hi he ht;exact hd _ (e3a (a3b hxy hu) k)
def sx(d x1 y1 x2 y2:Fq):Fq:=(x1 * y2 + x2 * y1) / (1 + d * x1 * x2 * y1 * y2)
def sy(d x1 y1 x2 y2:Fq):Fq:=(y1 * y2 + x1 * x2) / (1 - d * x1 * x2 * y1 * y2)
theorem sum_on{d x1 y1 x2 y2:Fq}(h1:onC d x1 y1)(h2:onC d x2 y2)(hp:1 + d * x1 * x2 * y1 * y2≠0)(hm:1 - d * x1 * x2 * y1 * y2≠0):onC d (sx d x1 y1 x2 y2) (sy d x1 y1 x2 y2):=by
 unfold onC sx sy at *;obtain⟨P,hP⟩:∃P,P=(1 + d * x1 * x2 * y1 * y2)⁻¹:=⟨_,rfl⟩;obtain⟨M,hM⟩:∃M,M=(1 - d * x1 * x2 * y1 * y2)⁻¹:=⟨_,rfl⟩;have eP:(1 + d * x1 * x2 * y1 * y2) * P=1:=by rw [hP];exact Lean.Grind.Field.mul_inv_cancel hp
 have eM:(1 - d * x1 * x2 * y1 * y2) * M=1:=by rw [hM];exact Lean.Grind.Field.mul_inv_cancel hm
 rw [Lean.Grind.Field.div_eq_mul_inv,Lean.Grind.Field.div_eq_mul_inv,←hP,←hM];clear hP hM hp hm
 grind
end Go.Ed
namespace Go.Ed
theorem d9l{c d x1 y1 x2 y2 x3 y3:Fq}(hc:c * d=1)(h1:x1 * x1 * y1 * y1=c * (y1 * y1 - x1 * x1 - 1))(h2:x2 * x2 * y2 * y2=c * (y2 * y2 - x2 * x2 - 1))(h3:x3 * x3 * y3 * y3=c * (y3 * y3 - x3 * x3 - 1)) :
 ((x1 * y2 + x2 * y1) * (1 - d * x1 * x2 * y1 * y2) * y3 + x3 * ((y1 * y2 + x1 * x2) * (1 + d * x1 * x2 * y1 * y2))) * ((1 + d * x2 * x3 * y2 * y3) * (1 - d * x2 * x3 * y2 * y3) + d * x1 * y1 * (x2 * y3 + x3 * y2) * (y2 * y3 + x2 * x3))
 = (x1 * ((y2 * y3 + x2 * x3) * (1 + d * x2 * x3 * y2 * y3)) + y1 * ((x2 * y3 + x3 * y2) * (1 - d * x2 * x3 * y2 * y3))) * ((1 + d * x1 * x2 * y1 * y2) * (1 - d * x1 * x2 * y1 * y2) + d * x3 * y3 * (x1 * y2 + x2 * y1) * (y1 * y2 + x1 * x2)):=by
 grind (ringSteps:=1000000)
theorem d9k{c d x1 y1 x2 y2 x3 y3:Fq}(hc:c * d=1)(h1:x1 * x1 * y1 * y1=c * (y1 * y1 - x1 * x1 - 1))(h2:x2 * x2 * y2 * y2=c * (y2 * y2 - x2 * x2 - 1))(h3:x3 * x3 * y3 * y3=c * (y3 * y3 - x3 * x3 - 1)) :
 ((y1 * y2 + x1 * x2) * (1 + d * x1 * x2 * y1 * y2) * y3 + x3 * ((x1 * y2 + x2 * y1) * (1 - d * x1 * x2 * y1 * y2))) * ((1 + d * x2 * x3 * y2 * y3) * (1 - d * x2 * x3 * y2 * y3) - d * x1 * y1 * (x2 * y3 + x3 * y2) * (y2 * y3 + x2 * x3))
 = (y1 * ((y2 * y3 + x2 * x3) * (1 + d * x2 * x3 * y2 * y3)) + x1 * ((x2 * y3 + x3 * y2) * (1 - d * x2 * x3 * y2 * y3))) * ((1 + d * x1 * x2 * y1 * y2) * (1 - d * x1 * x2 * y1 * y2) - d * x3 * y3 * (x1 * y2 + x2 * y1) * (y1 * y2 + x1 * x2)):=by
 grind (ringSteps:=1000000)
theorem on_c{c d x y:Fq}(hc:c * d=1)(h:onC d x y):x * x * y * y=c * (y * y - x * x - 1):=by
 unfold onC at h
 grind
theorem div_mul{a b:Fq}(hb:b≠0):a / b * b=a:=by
 have:=Lean.Grind.Field.mul_inv_cancel hb;rw [Lean.Grind.Field.div_eq_mul_inv]
 grind
theorem div_eq{a b z:Fq}(hb:b≠0)(h:z * b=a):a / b=z:=by
 have:=Lean.Grind.Field.mul_inv_cancel hb;rw [Lean.Grind.Field.div_eq_mul_inv]
 grind
theorem a9z{a b e f:Fq}(hb:b≠0)(hf:f≠0)(h:a * f=e * b):a / b=e / f:=by
 have h1:=Lean.Grind.Field.mul_inv_cancel hb;have h2:=Lean.Grind.Field.mul_inv_cancel hf;rw [Lean.Grind.Field.div_eq_mul_inv,Lean.Grind.Field.div_eq_mul_inv]
 grind
theorem d7c{d A B C D x3 y3:Fq}(hB:B≠0)(hD:D≠0)(hn:1 + d * (A / B) * x3 * (C / D) * y3≠0):B * D + d * x3 * y3 * A * C≠0∧sx d (A / B) (C / D) x3 y3=(A * D * y3 + x3 * (C * B)) / (B * D + d * x3 * y3 * A * C):=by
 obtain⟨a,ha⟩:∃a,a=A / B:=⟨_,rfl⟩;obtain⟨c,hc⟩:∃c,c=C / D:=⟨_,rfl⟩;have ea:a * B=A:=by rw [ha];exact div_mul hB
 have ec:c * D=C:=by rw [hc];exact div_mul hD
 rw [←ha,←hc]at hn ⊢;have hBD:=a3b hB hD;have e:B * D + d * x3 * y3 * A * C=B * D * (1 + d * a * x3 * c * y3):=by grind
 have hE:B * D + d * x3 * y3 * A * C≠0:=by rw [e];exact a3b hBD hn
 refine⟨hE,?_⟩;unfold sx;refine a9z hn hE ?_;rw [e]
 grind
theorem d7i{d A B C D x3 y3:Fq}(hB:B≠0)(hD:D≠0)(hn:1 - d * (A / B) * x3 * (C / D) * y3≠0):B * D - d * x3 * y3 * A * C≠0∧sy d (A / B) (C / D) x3 y3=(C * B * y3 + x3 * (A * D)) / (B * D - d * x3 * y3 * A * C):=by
 obtain⟨a,ha⟩:∃a,a=A / B:=⟨_,rfl⟩;obtain⟨c,hc⟩:∃c,c=C / D:=⟨_,rfl⟩;have ea:a * B=A:=by rw [ha];exact div_mul hB
 have ec:c * D=C:=by rw [hc];exact div_mul hD
 rw [←ha,←hc]at hn ⊢;have hBD:=a3b hB hD;have e:B * D - d * x3 * y3 * A * C=B * D * (1 - d * a * x3 * c * y3):=by grind
 have hE:B * D - d * x3 * y3 * A * C≠0:=by rw [e];exact a3b hBD hn
 refine⟨hE,?_⟩;unfold sy;refine a9z hn hE ?_;rw [e]
 grind
theorem d2f(d x1 y1 x2 y2:Fq):sx d x1 y1 x2 y2=sx d x2 y2 x1 y1:=by unfold sx;congr 1 <;> grind
theorem d3z(d x1 y1 x2 y2:Fq):sy d x1 y1 x2 y2=sy d x2 y2 x1 y1:=by unfold sy;congr 1 <;> grind
structure Good (d:Fq):Prop where
 non:∀z:Fq,z * z≠d
 root:∃i:Fq,i * i= -1
theorem Good.ne{d:Fq}(h:Good d):d≠0:=fun e=>h.non 0 (by rw [e];grind)
theorem Good.plus{d x1 y1 x2 y2:Fq}(g:Good d)(h1:onC d x1 y1)(h2:onC d x2 y2):1 + d * x1 * x2 * y1 * y2≠0:=by
 obtain⟨i,hi⟩:=g.root;have:=complete h1 h2 g.non hi (e:=-1) (by grind);exact fun h=>this (by grind)
theorem Good.minus{d x1 y1 x2 y2:Fq}(g:Good d)(h1:onC d x1 y1)(h2:onC d x2 y2):1 - d * x1 * x2 * y1 * y2≠0:=by
 obtain⟨i,hi⟩:=g.root;have:=complete h1 h2 g.non hi (e:=1) (by grind);exact fun h=>this (by grind)
theorem Good.on{d x1 y1 x2 y2:Fq}(g:Good d)(h1:onC d x1 y1)(h2:onC d x2 y2):onC d (sx d x1 y1 x2 y2) (sy d x1 y1 x2 y2):=sum_on h1 h2 (g.plus h1 h2) (g.minus h1 h2)
theorem Good.assoc{d x1 y1 x2 y2 x3 y3:Fq}(g:Good d)(h1:onC d x1 y1)(h2:onC d x2 y2)(h3:onC d x3 y3) :
 sx d (sx d x1 y1 x2 y2) (sy d x1 y1 x2 y2) x3 y3=sx d x1 y1 (sx d x2 y2 x3 y3) (sy d x2 y2 x3 y3)∧
 sy d (sx d x1 y1 x2 y2) (sy d x1 y1 x2 y2) x3 y3=sy d x1 y1 (sx d x2 y2 x3 y3) (sy d x2 y2 x3 y3):=by
 have hc:d⁻¹ * d=1:=by
  have:=Lean.Grind.Field.mul_inv_cancel g.ne
  grind
 have k1:=on_c hc h1;have k2:=on_c hc h2;have k3:=on_c hc h3;have p12:=g.plus h1 h2;have m12:=g.minus h1 h2;have p23:=g.plus h2 h3;have m23:=g.minus h2 h3;have o12:=g.on h1 h2;have o23:=g.on h2 h3;have pl:=g.plus o12 h3;have ml:=g.minus o12 h3;have pr:=g.plus o23 h1;have mr:=g.minus o23 h1;rw [d2f d x1 y1 (sx d x2 y2 x3 y3),d3z d x1 y1 (sx d x2 y2 x3 y3)];obtain⟨f1,e1⟩:=d7c (d:=d) (A:=x1 * y2 + x2 * y1) (C:=y1 * y2 + x1 * x2) (x3:=x3) (y3:=y3) p12 m12 pl;obtain⟨f2,e2⟩:=d7i (d:=d) (A:=x1 * y2 + x2 * y1) (C:=y1 * y2 + x1 * x2) (x3:=x3) (y3:=y3) p12 m12 ml;obtain⟨f3,e3⟩:=d7c (d:=d) (A:=x2 * y3 + x3 * y2) (C:=y2 * y3 + x2 * x3) (x3:=x1) (y3:=y1) p23 m23 pr;obtain⟨f4,e4⟩:=d7i (d:=d) (A:=x2 * y3 + x3 * y2) (C:=y2 * y3 + x2 * x3) (x3:=x1) (y3:=y1) p23 m23 mr;have q1:=d9l hc k1 k2 k3;have q2:=d9k hc k1 k2 k3;constructor
 ·refine e1.trans (Eq.trans (a9z f1 f3 ?_) e3.symm);clear e1 e2 e3 e4 f1 f2 f3 f4 q2 k1 k2 k3 hc pl ml pr mr o12 o23 p12 m12 p23 m23 h1 h2 h3 g;rw [q1]
  grind
 ·refine e2.trans (Eq.trans (a9z f2 f4 ?_) e4.symm);clear e1 e2 e3 e4 f1 f2 f3 f4 q1 k1 k2 k3 hc pl ml pr mr o12 o23 p12 m12 p23 m23 h1 h2 h3 g;rw [q2]
  grind
end Go.Ed
namespace Go.Ed
def Dn:Nat:=37095705934669439343138083508754565189542113879843219016388785533085940283555
def D:Fq:=mk Dn
def In:Nat:=19681161376707505956807079304988542015446066515923890162744021073123829784752
@[irreducible] def he:Nat:=28948022309329048855892746252171976963317496166410141009864396001978282409974
theorem he_two:p - 1=he + he:=by unfold he;decide +kernel
theorem D_pow:Dn ^ he % p=p - 1:=by
 have h:=Go.Nt.e4z p 255 Dn he (by unfold he;decide +kernel);rw [←h];unfold he;decide +kernel
theorem e1u:mk In * mk In=(-1:Fq):=by
 have h:mk In * mk In + 1=(0:Fq):=by
  show add (mul (mk In) (mk In)) (mk 1)=mk 0;rw [a2s,a3d,mk_eq];decide +kernel
 grind
theorem non_D(z:Fq):z * z≠D:=fun h=>by
 obtain⟨n,rfl⟩:=a4r z;have h2:n * n % p=Dn % p:=mk_eq.1 ((a2s n n).symm.trans h);have hn:n % p≠0:=fun e=>by
  rw [Nat.mul_mod,e,Nat.zero_mul,Nat.zero_mod]at h2;exact absurd h2 (by decide +kernel)
 have hf:=p_pr.b3w hn;rw [he_two,Nat.pow_add,←Nat.mul_pow,Nat.pow_mod,h2,←Nat.pow_mod,D_pow]at hf;exact absurd hf (by decide +kernel)
theorem c5f:Good D:=⟨non_D,mk In,e1u⟩
structure Pt where
 x:Fq
 y:Fq
 on:onC D x y
theorem Pt.ext{P Q:Pt}(h1:P.x=Q.x)(h2:P.y=Q.y):P=Q:=by cases P;cases Q;simp_all
def Pt.add(P Q:Pt):Pt:=⟨sx D P.x P.y Q.x Q.y,sy D P.x P.y Q.x Q.y,c5f.on P.on Q.on⟩
instance:Add Pt:=⟨Pt.add⟩
def Pt.zero:Pt:=⟨0,1,by unfold onC;grind⟩
def Pt.neg(P:Pt):Pt:=⟨-P.x,P.y,by have:=P.on;unfold onC at *;grind⟩
theorem Pt.comm(P Q:Pt):P + Q=Q + P:=Pt.ext (d2f _ _ _ _ _) (d3z _ _ _ _ _)
theorem Pt.assoc(P Q R:Pt):P + Q + R=P + (Q + R):=Pt.ext (c5f.assoc P.on Q.on R.on).1 (c5f.assoc P.on Q.on R.on).2
theorem Pt.add_zero(P:Pt):P + Pt.zero=P:=by
 refine Pt.ext ?_ ?_
 ·show sx D P.x P.y 0 1=P.x;unfold sx;exact div_eq (fun h=>b8d (by grind)) (by grind)
 ·show sy D P.x P.y 0 1=P.y;unfold sy;exact div_eq (fun h=>b8d (by grind)) (by grind)
theorem Pt.zero_add(P:Pt):Pt.zero + P=P:=by rw [Pt.comm,Pt.add_zero]
theorem Pt.add_neg(P:Pt):P + P.neg=Pt.zero:=by
 have h:=P.on;refine Pt.ext ?_ ?_
 ·show sx D P.x P.y (-P.x) P.y=0;unfold sx;exact div_eq (c5f.plus P.on P.neg.on) (by grind)
 ·show sy D P.x P.y (-P.x) P.y=1;unfold sy;refine div_eq (c5f.minus P.on P.neg.on) ?_;unfold onC at h
  grind
theorem Pt.neg_add(P Q:Pt):(P + Q).neg=P.neg + Q.neg:=by
 refine Pt.ext ?_ ?_
 ·show -(sx D P.x P.y Q.x Q.y)=sx D (-P.x) P.y (-Q.x) Q.y;unfold sx;rw [show(1 + D * -P.x * -Q.x * P.y * Q.y)=1 + D * P.x * Q.x * P.y * Q.y from by grind,Lean.Grind.Field.div_eq_mul_inv,Lean.Grind.Field.div_eq_mul_inv]
  grind
 ·show sy D P.x P.y Q.x Q.y=sy D (-P.x) P.y (-Q.x) Q.y;unfold sy;congr 1 <;> grind
attribute [irreducible] D Pt.add Pt.zero Pt.neg
def Pt.mul:Nat→Pt→Pt
 | 0,_=>Pt.zero
 | n + 1,P=>Pt.mul n P + P
theorem Pt.b4h(P:Pt):Pt.mul 0 P=Pt.zero:=rfl
theorem Pt.mul_succ(n:Nat)(P:Pt):Pt.mul (n + 1) P=Pt.mul n P + P:=rfl
theorem Pt.d1j(P:Pt):Pt.mul 1 P=P:=by rw [Pt.mul_succ,Pt.b4h,Pt.zero_add]
theorem Pt.b1n{P Q:Pt}(h:P + Q=Pt.zero):Q=P.neg:=by
 have e:P.neg + (P + Q)=P.neg:=by rw [h,Pt.add_zero]
 rw [←Pt.assoc,Pt.comm P.neg P,Pt.add_neg,Pt.zero_add]at e;exact e
theorem Pt.neg_zero:Pt.zero.neg=Pt.zero:=(Pt.b1n (Pt.add_zero _)).symm
theorem Pt.four(A B C E:Pt):A + B + (C + E)=A + C + (B + E):=by
 rw [Pt.assoc,←Pt.assoc B,Pt.comm B C,Pt.assoc C,←Pt.assoc A]
theorem Pt.mul_add(P:Pt)(m n:Nat):Pt.mul (m + n) P=Pt.mul m P + Pt.mul n P:=by
 induction n with
 | zero=>rw [Nat.add_zero,Pt.b4h,Pt.add_zero]
 | succ n ih=>rw [←Nat.add_assoc,Pt.mul_succ,Pt.mul_succ,ih,Pt.assoc]
theorem Pt.mul_zero(n:Nat):Pt.mul n Pt.zero=Pt.zero:=by
 induction n with
 | zero=>rw [Pt.b4h]
 | succ n ih=>rw [Pt.mul_succ,ih,Pt.add_zero]
theorem Pt.a7d(P:Pt)(m n:Nat):Pt.mul (m * n) P=Pt.mul n (Pt.mul m P):=by
 induction n with
 | zero=>rw [Nat.mul_zero,Pt.b4h,Pt.b4h]
 | succ n ih=>rw [Nat.mul_succ,Pt.mul_add,ih,Pt.mul_succ]
theorem Pt.e6d(P Q:Pt)(n:Nat):Pt.mul n (P + Q)=Pt.mul n P + Pt.mul n Q:=by
 induction n with
 | zero=>rw [Pt.b4h,Pt.b4h,Pt.b4h,Pt.add_zero]
 | succ n ih=>rw [Pt.mul_succ,Pt.mul_succ,Pt.mul_succ,ih,Pt.four]
theorem Pt.mul_neg(P:Pt)(n:Nat):Pt.mul n P.neg=(Pt.mul n P).neg:=by
 induction n with
 | zero=>rw [Pt.b4h,Pt.b4h,Pt.neg_zero]
 | succ n ih=>rw [Pt.mul_succ,Pt.mul_succ,ih,Pt.neg_add]
theorem Pt.mul_mod(P:Pt){L:Nat}(h:Pt.mul L P=Pt.zero)(n:Nat):Pt.mul n P=Pt.mul (n % L) P:=by
 have e:Pt.mul (L * (n / L) + n % L) P=Pt.mul (n % L) P:=by rw [Pt.mul_add,Pt.a7d,h,Pt.mul_zero,Pt.zero_add]
 rw [Nat.div_add_mod]at e;exact e
end Go.Ed
