/-
  The curve: twice a point: the walk.
  The curve: elements of bytes, sums, negatives, bytes of points.
  The curve: elements of bytes, the curve's numbers, the base point; sums and negatives.
  The curve: negatives, the bytes of points.
  The curve: small points, digits, rows of multiples.
  The curve: multiples of a point that is not the base point.
  The curve: the ladder's text.
  The curve: multiples of the base point.
-/
import Derived.Test.YtdbngnlpafcogaaGreatZcCu2
import Derived.Test.YtdbngnlpafcogaaGreatZcFam
set_option maxRecDepth 100000
namespace Go.Proofs.YtdbngnlpafcogaaGreat
open Go.RowKit Go.Mem Go.Txt
set_option maxHeartbeats 4000000 in
theorem c4p(X1 Y1 Z1 T1:Nat→Nat)(lX1:Lim X1)(lY1:Lim Y1)(lZ1:Lim Z1)(w:World) :
 Calls Tryz.prog 94 #[pv X1 Y1 Z1 T1] w fun e w'=>e= .returned (pv (mlF (suF (adF (mlF X1 X1) (mlF Y1 Y1)) (mlF (adF X1 Y1) (adF X1 Y1))) (adF (adF (mlF Z1 Z1) (mlF Z1 Z1)) (suF (mlF X1 X1) (mlF Y1 Y1)))) (mlF (suF (mlF X1 X1) (mlF Y1 Y1)) (adF (mlF X1 X1) (mlF Y1 Y1))) (mlF (adF (adF (mlF Z1 Z1) (mlF Z1 Z1)) (suF (mlF X1 X1) (mlF Y1 Y1))) (suF (mlF X1 X1) (mlF Y1 Y1))) (mlF (suF (adF (mlF X1 X1) (mlF Y1 Y1)) (mlF (adF X1 Y1) (adF X1 Y1))) (adF (mlF X1 X1) (mlF Y1 Y1))))∧Kept [] w w':=by
 have k0:MlC X1 X1 (mlF X1 X1):=b1i lX1 lX1;replace k0:=hjd k0;have k1:MlC Y1 Y1 (mlF Y1 Y1):=b1i lY1 lY1;replace k1:=hjd k1;have k2:MlC Z1 Z1 (mlF Z1 Z1):=b1i lZ1 lZ1;replace k2:=hjd k2;have k3:AdC (mlF X1 X1) (mlF Y1 Y1) (adF (mlF X1 X1) (mlF Y1 Y1)):=c6k (a0i lX1 lX1) (a0i lY1 lY1);replace k3:=hjd k3;have k4:AdC X1 Y1 (adF X1 Y1):=c6k lX1 lY1;replace k4:=hjd k4;have k5:MlC (adF X1 Y1) (adF X1 Y1) (mlF (adF X1 Y1) (adF X1 Y1)):=b1i (a0v lX1 lY1) (a0v lX1 lY1);replace k5:=hjd k5;have k6:SuC (adF (mlF X1 X1) (mlF Y1 Y1)) (mlF (adF X1 Y1) (adF X1 Y1)) (suF (adF (mlF X1 X1) (mlF Y1 Y1)) (mlF (adF X1 Y1) (adF X1 Y1))):=c7h (a0v (a0i lX1 lX1) (a0i lY1 lY1)) (a0i (a0v lX1 lY1) (a0v lX1 lY1));replace k6:=hjd k6;have k7:SuC (mlF X1 X1) (mlF Y1 Y1) (suF (mlF X1 X1) (mlF Y1 Y1)):=c7h (a0i lX1 lX1) (a0i lY1 lY1);replace k7:=hjd k7;have k8:AdC (mlF Z1 Z1) (mlF Z1 Z1) (adF (mlF Z1 Z1) (mlF Z1 Z1)):=c6k (a0i lZ1 lZ1) (a0i lZ1 lZ1);replace k8:=hjd k8;have k9:AdC (adF (mlF Z1 Z1) (mlF Z1 Z1)) (suF (mlF X1 X1) (mlF Y1 Y1)) (adF (adF (mlF Z1 Z1) (mlF Z1 Z1)) (suF (mlF X1 X1) (mlF Y1 Y1))):=c6k (a0v (a0i lZ1 lZ1) (a0i lZ1 lZ1)) (a1h (a0i lX1 lX1) (a0i lY1 lY1));replace k9:=hjd k9
 have k10:MlC (suF (adF (mlF X1 X1) (mlF Y1 Y1)) (mlF (adF X1 Y1) (adF X1 Y1))) (adF (adF (mlF Z1 Z1) (mlF Z1 Z1)) (suF (mlF X1 X1) (mlF Y1 Y1))) (mlF (suF (adF (mlF X1 X1) (mlF Y1 Y1)) (mlF (adF X1 Y1) (adF X1 Y1))) (adF (adF (mlF Z1 Z1) (mlF Z1 Z1)) (suF (mlF X1 X1) (mlF Y1 Y1)))):=b1i (a1h (a0v (a0i lX1 lX1) (a0i lY1 lY1)) (a0i (a0v lX1 lY1) (a0v lX1 lY1))) (a0v (a0v (a0i lZ1 lZ1) (a0i lZ1 lZ1)) (a1h (a0i lX1 lX1) (a0i lY1 lY1)));replace k10:=hjd k10;have k11:MlC (suF (mlF X1 X1) (mlF Y1 Y1)) (adF (mlF X1 X1) (mlF Y1 Y1)) (mlF (suF (mlF X1 X1) (mlF Y1 Y1)) (adF (mlF X1 X1) (mlF Y1 Y1))):=b1i (a1h (a0i lX1 lX1) (a0i lY1 lY1)) (a0v (a0i lX1 lX1) (a0i lY1 lY1));replace k11:=hjd k11;have k12:MlC (adF (adF (mlF Z1 Z1) (mlF Z1 Z1)) (suF (mlF X1 X1) (mlF Y1 Y1))) (suF (mlF X1 X1) (mlF Y1 Y1)) (mlF (adF (adF (mlF Z1 Z1) (mlF Z1 Z1)) (suF (mlF X1 X1) (mlF Y1 Y1))) (suF (mlF X1 X1) (mlF Y1 Y1))):=b1i (a0v (a0v (a0i lZ1 lZ1) (a0i lZ1 lZ1)) (a1h (a0i lX1 lX1) (a0i lY1 lY1))) (a1h (a0i lX1 lX1) (a0i lY1 lY1));replace k12:=hjd k12;have k13:MlC (suF (adF (mlF X1 X1) (mlF Y1 Y1)) (mlF (adF X1 Y1) (adF X1 Y1))) (adF (mlF X1 X1) (mlF Y1 Y1)) (mlF (suF (adF (mlF X1 X1) (mlF Y1 Y1)) (mlF (adF X1 Y1) (adF X1 Y1))) (adF (mlF X1 X1) (mlF Y1 Y1))):=b1i (a1h (a0v (a0i lX1 lX1) (a0i lY1 lY1)) (a0i (a0v lX1 lY1) (a0v lX1 lY1))) (a0v (a0i lX1 lX1) (a0i lY1 lY1));replace k13:=hjd k13;clear lX1 lY1 lZ1;go_enter Tryz.func94,Tryz.ntmps94;go_wp2_with (first
  | ((with_reducible refine a0q (o:=⟨some 1,_,_,_,_,_⟩) (v:=pv X1 Y1 Z1 T1) rfl (.tmp 0) rfl rfl ?_);intro g1 w1 m1)
  | ((with_reducible refine a0h (o:=⟨some 2,_,_,_,_,_⟩) rfl rfl c6o ?_);intro g2 w2 m2))
 have t0:=(((Pm.none w).kept m1.kept).cons m1.blk).kept m2.kept;have hl2:=hjd (Nat.le_trans m1.kept.size m2.le);have t:=hjd (show Pm w [(g2,72,(ptc a0j a0j a0j a0j).toArray),(g1,72,(ptc X1 Y1 Z1 T1).toArray)] w2 from t0.cons m2.blk);clear m1 m2 t0;refine a2m (by kernel_rfl) [.val (.pointer (some ⟨g1,0,none⟩)),.val (el X1),.val (.pointer (some ⟨g1,0,none⟩)),.val (el X1),.val (el (mlF X1 X1)),.val (.pointer (some ⟨g1,5,none⟩)),.val (el Y1),.val (.pointer (some ⟨g1,5,none⟩)),.val (el Y1),.val (el (mlF Y1 Y1)),.val (.pointer (some ⟨g1,10,none⟩)),.val (el Z1),.val (.pointer (some ⟨g1,10,none⟩)),.val (el Z1),.val (el (mlF Z1 Z1)),.new 70 (el a0j),.new 70 (el a0j),.new 70 (el a0j),.put 15 4 (uv (fam 5 (mlF X1 X1))).toArray,.put 16 9 (uv (fam 5 (mlF Y1 Y1))).toArray,.put 17 14 (uv (fam 5 (mlF Z1 Z1))).toArray]
  (Pm w [(g2,72,(ptc a0j a0j a0j a0j).toArray),(g1,72,(ptc X1 Y1 Z1 T1).toArray)]) (by kernel_rfl) (by kernel_rfl) t.out.drew (fun u u' T hS hk hT=>t.out.fresh u u' T hS hk hT) ?_ ?_
 ·refine⟨?_,?_,?_,?_,?_,?_,?_,?_,?_,?_,?_,?_,?_,?_,?_,⟨⟨_,rfl⟩,rfl,a1b⟩,⟨⟨_,rfl⟩,rfl,a1b⟩,⟨⟨_,rfl⟩,rfl,a1b⟩,?_,?_,?_,trivial⟩
  ·exact⟨⟨_,rfl⟩,fun a' u K0 R hS hr ho h=>a2c (.tmp 1) rfl ((ho 1 (by decide)).trans rfl) (fa0 g1) (h u (Kept.refl _ _))⟩
  ·exact⟨⟨_,rfl⟩,fun a' u K0 R hS hr ho h=>a2d a0c (.tmp 11) rfl (hr 0 _ 11 _ rfl rfl rfl ⟨⟨0,.data⟩,by simp,rfl,rfl⟩) (e3o (hS.s (g1,72,(ptc X1 Y1 Z1 T1).toArray) (by simp))) (a2b _) (h u (Kept.refl _ _))⟩
  ·exact⟨⟨_,rfl⟩,fun a' u K0 R hS hr ho h=>a2c (.tmp 1) rfl ((ho 1 (by decide)).trans rfl) (fa0 g1) (h u (Kept.refl _ _))⟩
  ·exact⟨⟨_,rfl⟩,fun a' u K0 R hS hr ho h=>a2d a0c (.tmp 13) rfl (hr 2 _ 13 _ rfl rfl rfl ⟨⟨2,.data⟩,by simp,rfl,rfl⟩) (e3o (hS.s (g1,72,(ptc X1 Y1 Z1 T1).toArray) (by simp))) (a2b _) (h u (Kept.refl _ _))⟩
  ·refine⟨⟨_,rfl⟩,fun a' u K0 R hS hr ho h=>?_⟩;refine a0n rfl a1e (vs:=#[el X1,el X1]) ?_ (k0.out u) h;have h0:=hr 1 (el X1) 12 _ rfl rfl rfl ⟨⟨1,.data⟩,by simp,rfl,rfl⟩;have h1:=hr 3 (el X1) 14 _ rfl rfl rfl ⟨⟨3,.data⟩,by simp,rfl,rfl⟩;simp [Act.eval]at h0 h1 ⊢;exact⟨h0,h1⟩
  ·exact⟨⟨_,rfl⟩,fun a' u K0 R hS hr ho h=>a2c (.tmp 1) rfl ((ho 1 (by decide)).trans rfl) (fa1 g1) (h u (Kept.refl _ _))⟩
  ·exact⟨⟨_,rfl⟩,fun a' u K0 R hS hr ho h=>a2d a0c (.tmp 16) rfl (hr 5 _ 16 _ rfl rfl rfl ⟨⟨5,.data⟩,by simp,rfl,rfl⟩) (e2e (hS.s (g1,72,(ptc X1 Y1 Z1 T1).toArray) (by simp))) (a2b _) (h u (Kept.refl _ _))⟩
  ·exact⟨⟨_,rfl⟩,fun a' u K0 R hS hr ho h=>a2c (.tmp 1) rfl ((ho 1 (by decide)).trans rfl) (fa1 g1) (h u (Kept.refl _ _))⟩
  ·exact⟨⟨_,rfl⟩,fun a' u K0 R hS hr ho h=>a2d a0c (.tmp 18) rfl (hr 7 _ 18 _ rfl rfl rfl ⟨⟨7,.data⟩,by simp,rfl,rfl⟩) (e2e (hS.s (g1,72,(ptc X1 Y1 Z1 T1).toArray) (by simp))) (a2b _) (h u (Kept.refl _ _))⟩
  ·refine⟨⟨_,rfl⟩,fun a' u K0 R hS hr ho h=>?_⟩;refine a0n rfl a1e (vs:=#[el Y1,el Y1]) ?_ (k1.out u) h;have h0:=hr 6 (el Y1) 17 _ rfl rfl rfl ⟨⟨6,.data⟩,by simp,rfl,rfl⟩;have h1:=hr 8 (el Y1) 19 _ rfl rfl rfl ⟨⟨8,.data⟩,by simp,rfl,rfl⟩;simp [Act.eval]at h0 h1 ⊢;exact⟨h0,h1⟩
  ·exact⟨⟨_,rfl⟩,fun a' u K0 R hS hr ho h=>a2c (.tmp 1) rfl ((ho 1 (by decide)).trans rfl) (fa2 g1) (h u (Kept.refl _ _))⟩
  ·exact⟨⟨_,rfl⟩,fun a' u K0 R hS hr ho h=>a2d a0c (.tmp 21) rfl (hr 10 _ 21 _ rfl rfl rfl ⟨⟨10,.data⟩,by simp,rfl,rfl⟩) (pt_z (hS.s (g1,72,(ptc X1 Y1 Z1 T1).toArray) (by simp))) (a2b _) (h u (Kept.refl _ _))⟩
  ·exact⟨⟨_,rfl⟩,fun a' u K0 R hS hr ho h=>a2c (.tmp 1) rfl ((ho 1 (by decide)).trans rfl) (fa2 g1) (h u (Kept.refl _ _))⟩
  ·exact⟨⟨_,rfl⟩,fun a' u K0 R hS hr ho h=>a2d a0c (.tmp 23) rfl (hr 12 _ 23 _ rfl rfl rfl ⟨⟨12,.data⟩,by simp,rfl,rfl⟩) (pt_z (hS.s (g1,72,(ptc X1 Y1 Z1 T1).toArray) (by simp))) (a2b _) (h u (Kept.refl _ _))⟩
  ·refine⟨⟨_,rfl⟩,fun a' u K0 R hS hr ho h=>?_⟩;refine a0n rfl a1e (vs:=#[el Z1,el Z1]) ?_ (k2.out u) h;have h0:=hr 11 (el Z1) 22 _ rfl rfl rfl ⟨⟨11,.data⟩,by simp,rfl,rfl⟩;have h1:=hr 13 (el Z1) 24 _ rfl rfl rfl ⟨⟨13,.data⟩,by simp,rfl,rfl⟩;simp [Act.eval]at h0 h1 ⊢;exact⟨h0,h1⟩
  ·exact⟨rfl,⟨⟨15,.data⟩,by simp,rfl,rfl⟩,⟨⟨4,.data⟩,by simp,rfl,rfl⟩,_,_,_,_,_,_,_,_,rfl,rfl,rfl,rfl,rfl,rfl,rfl,a0c,rfl,rfl,a0u _⟩
  ·exact⟨rfl,⟨⟨16,.data⟩,by simp,rfl,rfl⟩,⟨⟨9,.data⟩,by simp,rfl,rfl⟩,_,_,_,_,_,_,_,_,rfl,rfl,rfl,rfl,rfl,rfl,rfl,a0c,rfl,rfl,a0u _⟩
  ·exact⟨rfl,⟨⟨17,.data⟩,by simp,rfl,rfl⟩,⟨⟨14,.data⟩,by simp,rfl,rfl⟩,_,_,_,_,_,_,_,_,rfl,rfl,rfl,rfl,rfl,rfl,rfl,a0c,rfl,rfl,a0u _⟩
 ·intro γ w11 hS hγ hne hput;have b3:=hput 18 15 4 _ _ _ rfl rfl;have b4:=hput 19 16 9 _ _ _ rfl rfl;have b5:=hput 20 17 14 _ _ _ rfl rfl;have hf3:=hγ 15 _ _ rfl;have hf4:=hγ 16 _ _ rfl;have hf5:=hγ 17 _ _ rfl;generalize e3:γ 15=g3 at *;generalize e4:γ 16=g4 at *;generalize e5:γ 17=g5 at *;simp [a1f,VK,List.range,List.range.loop,Act.put,e3,e4,e5];replace t:=hjd (show Pm w [(g5,70,(uv (fam 5 (mlF Z1 Z1))).toArray),(g4,70,(uv (fam 5 (mlF Y1 Y1))).toArray),(g3,70,(uv (fam 5 (mlF X1 X1))).toArray),(g2,72,(ptc a0j a0j a0j a0j).toArray),(g1,72,(ptc X1 Y1 Z1 T1).toArray)] w11 from(((hS).cons b3).cons b4).cons b5);clear b3 b4 b5 hput hne hγ hS e3 e4 e5 hf3 hf4 hf5;go_wp2_with (first
   | (with_reducible refine a0d (o:=⟨some 26,_,_,_,_,_⟩) a0c rfl (.tmp 3) rfl rfl (t.out.s (g3,70,(uv (fam 5 (mlF X1 X1))).toArray) (by simp)) rfl ?_)
   | (with_reducible refine a0d (o:=⟨some 27,_,_,_,_,_⟩) a0c rfl (.tmp 4) rfl rfl (t.out.s (g4,70,(uv (fam 5 (mlF Y1 Y1))).toArray) (by simp)) rfl ?_)
   | (go_at_call 118;(with_reducible refine(k3.out _).mono ?_);rintro e y1 ⟨rfl,kk⟩;replace t:=hjd (t.out.kept kk);clear kk)
   | ((with_reducible refine a0h (o:=⟨some 6,_,_,_,_,_⟩) rfl rfl a1b ?_);intro g6 x6 m6)
   | ((with_reducible refine a0a (o:=⟨none,.store 70 (.tmp 6) (.tmp 28),_,_,_,_⟩) a0c rfl (.tmp 6) (.tmp 28) rfl rfl rfl m6.blk rfl rfl (a0u _) ?_);intro v6 b6 k6;replace t:=hjd (t.out.put m6 b6 k6);clear m6 b6 k6)
   | (with_reducible refine a1i (o:=⟨some 30,_,_,_,_,_⟩) a0c rfl (.tmp 29) rfl rfl (e3o (t.out.s (g1,72,(ptc X1 Y1 Z1 T1).toArray) (by simp))) (a2b _) ?_)
   | (with_reducible refine a1i (o:=⟨some 32,_,_,_,_,_⟩) a0c rfl (.tmp 31) rfl rfl (e2e (t.out.s (g1,72,(ptc X1 Y1 Z1 T1).toArray) (by simp))) (a2b _) ?_)
   | (go_at_call 118;(with_reducible refine(k4.out _).mono ?_);rintro e y1 ⟨rfl,kk⟩;replace t:=hjd (t.out.kept kk);clear kk)
   | ((with_reducible refine a0h (o:=⟨some 7,_,_,_,_,_⟩) rfl rfl a1b ?_);intro g7 x7 m7)
   | ((with_reducible refine a0a (o:=⟨none,.store 70 (.tmp 7) (.tmp 33),_,_,_,_⟩) a0c rfl (.tmp 7) (.tmp 33) rfl rfl rfl m7.blk rfl rfl (a0u _) ?_);intro v7 b7 k7;replace t:=hjd (t.out.put m7 b7 k7);clear m7 b7 k7))
  refine a2m (by kernel_rfl) [.val (el (adF (mlF X1 X1) (mlF Y1 Y1))),.val (el (adF X1 Y1)),.val (el (adF X1 Y1)),.val (el (mlF (adF X1 Y1) (adF X1 Y1))),.val (el (suF (adF (mlF X1 X1) (mlF Y1 Y1)) (mlF (adF X1 Y1) (adF X1 Y1)))),.val (el (mlF X1 X1)),.val (el (mlF Y1 Y1)),.val (el (suF (mlF X1 X1) (mlF Y1 Y1))),.new 70 (el a0j),.new 70 (el a0j),.put 8 4 (uv (fam 5 (suF (adF (mlF X1 X1) (mlF Y1 Y1)) (mlF (adF X1 Y1) (adF X1 Y1))))).toArray,.put 9 7 (uv (fam 5 (suF (mlF X1 X1) (mlF Y1 Y1)))).toArray]
   (Pm w [(g7,70,(uv (fam 5 (adF X1 Y1))).toArray),(g6,70,(uv (fam 5 (adF (mlF X1 X1) (mlF Y1 Y1)))).toArray),(g5,70,(uv (fam 5 (mlF Z1 Z1))).toArray),(g4,70,(uv (fam 5 (mlF Y1 Y1))).toArray),(g3,70,(uv (fam 5 (mlF X1 X1))).toArray),(g2,72,(ptc a0j a0j a0j a0j).toArray),(g1,72,(ptc X1 Y1 Z1 T1).toArray)]) (by kernel_rfl) (by kernel_rfl) t.out.drew (fun u u' T hS hk hT=>t.out.fresh u u' T hS hk hT) ?_ ?_
  ·refine⟨?_,?_,?_,?_,?_,?_,?_,?_,⟨⟨_,rfl⟩,rfl,a1b⟩,⟨⟨_,rfl⟩,rfl,a1b⟩,?_,?_,trivial⟩
   ·exact⟨⟨_,rfl⟩,fun a' u K0 R hS hr ho h=>a0o a0c (.tmp 6) rfl ((ho 6 (by decide)).trans rfl) (hS.s (g6,70,(uv (fam 5 (adF (mlF X1 X1) (mlF Y1 Y1)))).toArray) (by simp)) rfl (h u (Kept.refl _ _))⟩
   ·exact⟨⟨_,rfl⟩,fun a' u K0 R hS hr ho h=>a0o a0c (.tmp 7) rfl ((ho 7 (by decide)).trans rfl) (hS.s (g7,70,(uv (fam 5 (adF X1 Y1))).toArray) (by simp)) rfl (h u (Kept.refl _ _))⟩
   ·exact⟨⟨_,rfl⟩,fun a' u K0 R hS hr ho h=>a0o a0c (.tmp 7) rfl ((ho 7 (by decide)).trans rfl) (hS.s (g7,70,(uv (fam 5 (adF X1 Y1))).toArray) (by simp)) rfl (h u (Kept.refl _ _))⟩
   ·refine⟨⟨_,rfl⟩,fun a' u K0 R hS hr ho h=>?_⟩;refine a0n rfl a1e (vs:=#[el (adF X1 Y1),el (adF X1 Y1)]) ?_ (k5.out u) h;have h0:=hr 1 (el (adF X1 Y1)) 35 _ rfl rfl rfl ⟨⟨1,.data⟩,by simp,rfl,rfl⟩;have h1:=hr 2 (el (adF X1 Y1)) 36 _ rfl rfl rfl ⟨⟨2,.data⟩,by simp,rfl,rfl⟩;simp [Act.eval]at h0 h1 ⊢;exact⟨h0,h1⟩
   ·refine⟨⟨_,rfl⟩,fun a' u K0 R hS hr ho h=>?_⟩;refine a0n rfl a2q (vs:=#[el (adF (mlF X1 X1) (mlF Y1 Y1)),el (mlF (adF X1 Y1) (adF X1 Y1))]) ?_ (k6.out u) h;have h0:=hr 0 (el (adF (mlF X1 X1) (mlF Y1 Y1))) 34 _ rfl rfl rfl ⟨⟨0,.data⟩,by simp,rfl,rfl⟩;have h1:=hr 3 (el (mlF (adF X1 Y1) (adF X1 Y1))) 37 _ rfl rfl rfl ⟨⟨3,.data⟩,by simp,rfl,rfl⟩;simp [Act.eval]at h0 h1 ⊢;exact⟨h0,h1⟩
   ·exact⟨⟨_,rfl⟩,fun a' u K0 R hS hr ho h=>a0o a0c (.tmp 3) rfl ((ho 3 (by decide)).trans rfl) (hS.s (g3,70,(uv (fam 5 (mlF X1 X1))).toArray) (by simp)) rfl (h u (Kept.refl _ _))⟩
   ·exact⟨⟨_,rfl⟩,fun a' u K0 R hS hr ho h=>a0o a0c (.tmp 4) rfl ((ho 4 (by decide)).trans rfl) (hS.s (g4,70,(uv (fam 5 (mlF Y1 Y1))).toArray) (by simp)) rfl (h u (Kept.refl _ _))⟩
   ·refine⟨⟨_,rfl⟩,fun a' u K0 R hS hr ho h=>?_⟩;refine a0n rfl a2q (vs:=#[el (mlF X1 X1),el (mlF Y1 Y1)]) ?_ (k7.out u) h;have h0:=hr 5 (el (mlF X1 X1)) 39 _ rfl rfl rfl ⟨⟨5,.data⟩,by simp,rfl,rfl⟩;have h1:=hr 6 (el (mlF Y1 Y1)) 40 _ rfl rfl rfl ⟨⟨6,.data⟩,by simp,rfl,rfl⟩;simp [Act.eval]at h0 h1 ⊢;exact⟨h0,h1⟩
   ·exact⟨rfl,⟨⟨8,.data⟩,by simp,rfl,rfl⟩,⟨⟨4,.data⟩,by simp,rfl,rfl⟩,_,_,_,_,_,_,_,_,rfl,rfl,rfl,rfl,rfl,rfl,rfl,a0c,rfl,rfl,a0u _⟩
   ·exact⟨rfl,⟨⟨9,.data⟩,by simp,rfl,rfl⟩,⟨⟨7,.data⟩,by simp,rfl,rfl⟩,_,_,_,_,_,_,_,_,rfl,rfl,rfl,rfl,rfl,rfl,rfl,a0c,rfl,rfl,a0u _⟩
  ·intro γ w14 hS hγ hne hput;have b8:=hput 10 8 4 _ _ _ rfl rfl;have b9:=hput 11 9 7 _ _ _ rfl rfl;have hf8:=hγ 8 _ _ rfl;have hf9:=hγ 9 _ _ rfl;generalize e8:γ 8=g8 at *;generalize e9:γ 9=g9 at *;simp [a1f,VK,List.range,List.range.loop,Act.put,e8,e9];replace t:=hjd (show Pm w [(g9,70,(uv (fam 5 (suF (mlF X1 X1) (mlF Y1 Y1)))).toArray),(g8,70,(uv (fam 5 (suF (adF (mlF X1 X1) (mlF Y1 Y1)) (mlF (adF X1 Y1) (adF X1 Y1))))).toArray),(g7,70,(uv (fam 5 (adF X1 Y1))).toArray),(g6,70,(uv (fam 5 (adF (mlF X1 X1) (mlF Y1 Y1)))).toArray),(g5,70,(uv (fam 5 (mlF Z1 Z1))).toArray),(g4,70,(uv (fam 5 (mlF Y1 Y1))).toArray),(g3,70,(uv (fam 5 (mlF X1 X1))).toArray),(g2,72,(ptc a0j a0j a0j a0j).toArray),(g1,72,(ptc X1 Y1 Z1 T1).toArray)] w14 from((hS).cons b8).cons b9);clear b8 b9 hput hne hγ hS e8 e9 hf8 hf9;go_wp2_with fail;refine a2m (by kernel_rfl) [.val (el (mlF Z1 Z1)),.val (el (mlF Z1 Z1)),.val (el (adF (mlF Z1 Z1) (mlF Z1 Z1))),.val (el (suF (mlF X1 X1) (mlF Y1 Y1))),.val (el (adF (adF (mlF Z1 Z1) (mlF Z1 Z1)) (suF (mlF X1 X1) (mlF Y1 Y1)))),.new 70 (el a0j),.put 5 4 (uv (fam 5 (adF (adF (mlF Z1 Z1) (mlF Z1 Z1)) (suF (mlF X1 X1) (mlF Y1 Y1))))).toArray]
    (Pm w [(g9,70,(uv (fam 5 (suF (mlF X1 X1) (mlF Y1 Y1)))).toArray),(g8,70,(uv (fam 5 (suF (adF (mlF X1 X1) (mlF Y1 Y1)) (mlF (adF X1 Y1) (adF X1 Y1))))).toArray),(g7,70,(uv (fam 5 (adF X1 Y1))).toArray),(g6,70,(uv (fam 5 (adF (mlF X1 X1) (mlF Y1 Y1)))).toArray),(g5,70,(uv (fam 5 (mlF Z1 Z1))).toArray),(g4,70,(uv (fam 5 (mlF Y1 Y1))).toArray),(g3,70,(uv (fam 5 (mlF X1 X1))).toArray),(g2,72,(ptc a0j a0j a0j a0j).toArray),(g1,72,(ptc X1 Y1 Z1 T1).toArray)]) (by kernel_rfl) (by kernel_rfl) t.out.drew (fun u u' T hS hk hT=>t.out.fresh u u' T hS hk hT) ?_ ?_
   ·refine⟨?_,?_,?_,?_,?_,⟨⟨_,rfl⟩,rfl,a1b⟩,?_,trivial⟩
    ·exact⟨⟨_,rfl⟩,fun a' u K0 R hS hr ho h=>a0o a0c (.tmp 5) rfl ((ho 5 (by decide)).trans rfl) (hS.s (g5,70,(uv (fam 5 (mlF Z1 Z1))).toArray) (by simp)) rfl (h u (Kept.refl _ _))⟩
    ·exact⟨⟨_,rfl⟩,fun a' u K0 R hS hr ho h=>a0o a0c (.tmp 5) rfl ((ho 5 (by decide)).trans rfl) (hS.s (g5,70,(uv (fam 5 (mlF Z1 Z1))).toArray) (by simp)) rfl (h u (Kept.refl _ _))⟩
    ·refine⟨⟨_,rfl⟩,fun a' u K0 R hS hr ho h=>?_⟩;refine a0n rfl a3p (vs:=#[el (mlF Z1 Z1),el (mlF Z1 Z1)]) ?_ (k8.out u) h;have h0:=hr 0 (el (mlF Z1 Z1)) 42 _ rfl rfl rfl ⟨⟨0,.data⟩,by simp,rfl,rfl⟩;have h1:=hr 1 (el (mlF Z1 Z1)) 43 _ rfl rfl rfl ⟨⟨1,.data⟩,by simp,rfl,rfl⟩;simp [Act.eval]at h0 h1 ⊢;exact⟨h0,h1⟩
    ·exact⟨⟨_,rfl⟩,fun a' u K0 R hS hr ho h=>a0o a0c (.tmp 9) rfl ((ho 9 (by decide)).trans rfl) (hS.s (g9,70,(uv (fam 5 (suF (mlF X1 X1) (mlF Y1 Y1)))).toArray) (by simp)) rfl (h u (Kept.refl _ _))⟩
    ·refine⟨⟨_,rfl⟩,fun a' u K0 R hS hr ho h=>?_⟩;refine a0n rfl a3p (vs:=#[el (adF (mlF Z1 Z1) (mlF Z1 Z1)),el (suF (mlF X1 X1) (mlF Y1 Y1))]) ?_ (k9.out u) h;have h0:=hr 2 (el (adF (mlF Z1 Z1) (mlF Z1 Z1))) 44 _ rfl rfl rfl ⟨⟨2,.data⟩,by simp,rfl,rfl⟩;have h1:=hr 3 (el (suF (mlF X1 X1) (mlF Y1 Y1))) 45 _ rfl rfl rfl ⟨⟨3,.data⟩,by simp,rfl,rfl⟩;simp [Act.eval]at h0 h1 ⊢;exact⟨h0,h1⟩
    ·exact⟨rfl,⟨⟨5,.data⟩,by simp,rfl,rfl⟩,⟨⟨4,.data⟩,by simp,rfl,rfl⟩,_,_,_,_,_,_,_,_,rfl,rfl,rfl,rfl,rfl,rfl,rfl,a0c,rfl,rfl,a0u _⟩
   ·intro γ w15 hS hγ hne hput;have b10:=hput 6 5 4 _ _ _ rfl rfl;have hf10:=hγ 5 _ _ rfl;generalize e10:γ 5=g10 at *;simp [a1f,VK,List.range,List.range.loop,Act.put,e10];replace t:=hjd (show Pm w [(g10,70,(uv (fam 5 (adF (adF (mlF Z1 Z1) (mlF Z1 Z1)) (suF (mlF X1 X1) (mlF Y1 Y1))))).toArray),(g9,70,(uv (fam 5 (suF (mlF X1 X1) (mlF Y1 Y1)))).toArray),(g8,70,(uv (fam 5 (suF (adF (mlF X1 X1) (mlF Y1 Y1)) (mlF (adF X1 Y1) (adF X1 Y1))))).toArray),(g7,70,(uv (fam 5 (adF X1 Y1))).toArray),(g6,70,(uv (fam 5 (adF (mlF X1 X1) (mlF Y1 Y1)))).toArray),(g5,70,(uv (fam 5 (mlF Z1 Z1))).toArray),(g4,70,(uv (fam 5 (mlF Y1 Y1))).toArray),(g3,70,(uv (fam 5 (mlF X1 X1))).toArray),(g2,72,(ptc a0j a0j a0j a0j).toArray),(g1,72,(ptc X1 Y1 Z1 T1).toArray)] w15 from(hS).cons b10);clear b10 hput hne hγ hS e10 hf10;go_wp2_with fail
    refine a6n (by kernel_rfl) [el (suF (adF (mlF X1 X1) (mlF Y1 Y1)) (mlF (adF X1 Y1) (adF X1 Y1))),el (adF (adF (mlF Z1 Z1) (mlF Z1 Z1)) (suF (mlF X1 X1) (mlF Y1 Y1))),el (mlF (suF (adF (mlF X1 X1) (mlF Y1 Y1)) (mlF (adF X1 Y1) (adF X1 Y1))) (adF (adF (mlF Z1 Z1) (mlF Z1 Z1)) (suF (mlF X1 X1) (mlF Y1 Y1)))),el (suF (mlF X1 X1) (mlF Y1 Y1)),el (adF (mlF X1 X1) (mlF Y1 Y1)),el (mlF (suF (mlF X1 X1) (mlF Y1 Y1)) (adF (mlF X1 X1) (mlF Y1 Y1))),el (adF (adF (mlF Z1 Z1) (mlF Z1 Z1)) (suF (mlF X1 X1) (mlF Y1 Y1))),el (suF (mlF X1 X1) (mlF Y1 Y1)),el (mlF (adF (adF (mlF Z1 Z1) (mlF Z1 Z1)) (suF (mlF X1 X1) (mlF Y1 Y1))) (suF (mlF X1 X1) (mlF Y1 Y1))),el (suF (adF (mlF X1 X1) (mlF Y1 Y1)) (mlF (adF X1 Y1) (adF X1 Y1))),el (adF (mlF X1 X1) (mlF Y1 Y1)),el (mlF (suF (adF (mlF X1 X1) (mlF Y1 Y1)) (mlF (adF X1 Y1) (adF X1 Y1))) (adF (mlF X1 X1) (mlF Y1 Y1))),pv (mlF (suF (adF (mlF X1 X1) (mlF Y1 Y1)) (mlF (adF X1 Y1) (adF X1 Y1))) (adF (adF (mlF Z1 Z1) (mlF Z1 Z1)) (suF (mlF X1 X1) (mlF Y1 Y1)))) (mlF (suF (mlF X1 X1) (mlF Y1 Y1)) (adF (mlF X1 X1) (mlF Y1 Y1))) (mlF (adF (adF (mlF Z1 Z1) (mlF Z1 Z1)) (suF (mlF X1 X1) (mlF Y1 Y1))) (suF (mlF X1 X1) (mlF Y1 Y1))) (mlF (suF (adF (mlF X1 X1) (mlF Y1 Y1)) (mlF (adF X1 Y1) (adF X1 Y1))) (adF (mlF X1 X1) (mlF Y1 Y1)))]
     (Pm w [(g10,70,(uv (fam 5 (adF (adF (mlF Z1 Z1) (mlF Z1 Z1)) (suF (mlF X1 X1) (mlF Y1 Y1))))).toArray),(g9,70,(uv (fam 5 (suF (mlF X1 X1) (mlF Y1 Y1)))).toArray),(g8,70,(uv (fam 5 (suF (adF (mlF X1 X1) (mlF Y1 Y1)) (mlF (adF X1 Y1) (adF X1 Y1))))).toArray),(g7,70,(uv (fam 5 (adF X1 Y1))).toArray),(g6,70,(uv (fam 5 (adF (mlF X1 X1) (mlF Y1 Y1)))).toArray),(g5,70,(uv (fam 5 (mlF Z1 Z1))).toArray),(g4,70,(uv (fam 5 (mlF Y1 Y1))).toArray),(g3,70,(uv (fam 5 (mlF X1 X1))).toArray),(g2,72,(ptc a0j a0j a0j a0j).toArray),(g1,72,(ptc X1 Y1 Z1 T1).toArray)]) (by kernel_rfl) rfl rfl (by kernel_rfl) t.out.drew (fun u u' h hk=>h.kept hk) ?_ ?_
    ·refine⟨?_,?_,?_,?_,?_,?_,?_,?_,?_,?_,?_,?_,?_,trivial⟩
     ·exact fun a' u K0 R hS hr ho h=>a0o a0c (.tmp 8) rfl ((ho 8 (by decide)).trans rfl) (hS.s (g8,70,(uv (fam 5 (suF (adF (mlF X1 X1) (mlF Y1 Y1)) (mlF (adF X1 Y1) (adF X1 Y1))))).toArray) (by simp)) rfl (h u (Kept.refl _ _))
     ·exact fun a' u K0 R hS hr ho h=>a0o a0c (.tmp 10) rfl ((ho 10 (by decide)).trans rfl) (hS.s (g10,70,(uv (fam 5 (adF (adF (mlF Z1 Z1) (mlF Z1 Z1)) (suF (mlF X1 X1) (mlF Y1 Y1))))).toArray) (by simp)) rfl (h u (Kept.refl _ _))
     ·refine fun a' u K0 R hS hr ho h=>?_
      refine a0n rfl a1e (vs:=#[el (suF (adF (mlF X1 X1) (mlF Y1 Y1)) (mlF (adF X1 Y1) (adF X1 Y1))),el (adF (adF (mlF Z1 Z1) (mlF Z1 Z1)) (suF (mlF X1 X1) (mlF Y1 Y1)))]) ?_ (k10.out u) h;have h0:=hr 0 (el (suF (adF (mlF X1 X1) (mlF Y1 Y1)) (mlF (adF X1 Y1) (adF X1 Y1)))) 47 _ rfl rfl rfl ⟨⟨0,.data⟩,by simp,rfl,rfl⟩;have h1:=hr 1 (el (adF (adF (mlF Z1 Z1) (mlF Z1 Z1)) (suF (mlF X1 X1) (mlF Y1 Y1)))) 48 _ rfl rfl rfl ⟨⟨1,.data⟩,by simp,rfl,rfl⟩;simp [Act.eval]at h0 h1 ⊢;exact⟨h0,h1⟩
     ·exact fun a' u K0 R hS hr ho h=>a0o a0c (.tmp 9) rfl ((ho 9 (by decide)).trans rfl) (hS.s (g9,70,(uv (fam 5 (suF (mlF X1 X1) (mlF Y1 Y1)))).toArray) (by simp)) rfl (h u (Kept.refl _ _))
     ·exact fun a' u K0 R hS hr ho h=>a0o a0c (.tmp 6) rfl ((ho 6 (by decide)).trans rfl) (hS.s (g6,70,(uv (fam 5 (adF (mlF X1 X1) (mlF Y1 Y1)))).toArray) (by simp)) rfl (h u (Kept.refl _ _))
     ·refine fun a' u K0 R hS hr ho h=>?_
      refine a0n rfl a1e (vs:=#[el (suF (mlF X1 X1) (mlF Y1 Y1)),el (adF (mlF X1 X1) (mlF Y1 Y1))]) ?_ (k11.out u) h;have h0:=hr 3 (el (suF (mlF X1 X1) (mlF Y1 Y1))) 50 _ rfl rfl rfl ⟨⟨3,.data⟩,by simp,rfl,rfl⟩;have h1:=hr 4 (el (adF (mlF X1 X1) (mlF Y1 Y1))) 51 _ rfl rfl rfl ⟨⟨4,.data⟩,by simp,rfl,rfl⟩;simp [Act.eval]at h0 h1 ⊢;exact⟨h0,h1⟩
     ·exact fun a' u K0 R hS hr ho h=>a0o a0c (.tmp 10) rfl ((ho 10 (by decide)).trans rfl) (hS.s (g10,70,(uv (fam 5 (adF (adF (mlF Z1 Z1) (mlF Z1 Z1)) (suF (mlF X1 X1) (mlF Y1 Y1))))).toArray) (by simp)) rfl (h u (Kept.refl _ _))
     ·exact fun a' u K0 R hS hr ho h=>a0o a0c (.tmp 9) rfl ((ho 9 (by decide)).trans rfl) (hS.s (g9,70,(uv (fam 5 (suF (mlF X1 X1) (mlF Y1 Y1)))).toArray) (by simp)) rfl (h u (Kept.refl _ _))
     ·refine fun a' u K0 R hS hr ho h=>?_
      refine a0n rfl a1e (vs:=#[el (adF (adF (mlF Z1 Z1) (mlF Z1 Z1)) (suF (mlF X1 X1) (mlF Y1 Y1))),el (suF (mlF X1 X1) (mlF Y1 Y1))]) ?_ (k12.out u) h;have h0:=hr 6 (el (adF (adF (mlF Z1 Z1) (mlF Z1 Z1)) (suF (mlF X1 X1) (mlF Y1 Y1)))) 53 _ rfl rfl rfl ⟨⟨6,.data⟩,by simp,rfl,rfl⟩;have h1:=hr 7 (el (suF (mlF X1 X1) (mlF Y1 Y1))) 54 _ rfl rfl rfl ⟨⟨7,.data⟩,by simp,rfl,rfl⟩;simp [Act.eval]at h0 h1 ⊢;exact⟨h0,h1⟩
     ·exact fun a' u K0 R hS hr ho h=>a0o a0c (.tmp 8) rfl ((ho 8 (by decide)).trans rfl) (hS.s (g8,70,(uv (fam 5 (suF (adF (mlF X1 X1) (mlF Y1 Y1)) (mlF (adF X1 Y1) (adF X1 Y1))))).toArray) (by simp)) rfl (h u (Kept.refl _ _))
     ·exact fun a' u K0 R hS hr ho h=>a0o a0c (.tmp 6) rfl ((ho 6 (by decide)).trans rfl) (hS.s (g6,70,(uv (fam 5 (adF (mlF X1 X1) (mlF Y1 Y1)))).toArray) (by simp)) rfl (h u (Kept.refl _ _))
     ·refine fun a' u K0 R hS hr ho h=>?_
      refine a0n rfl a1e (vs:=#[el (suF (adF (mlF X1 X1) (mlF Y1 Y1)) (mlF (adF X1 Y1) (adF X1 Y1))),el (adF (mlF X1 X1) (mlF Y1 Y1))]) ?_ (k13.out u) h;have h0:=hr 9 (el (suF (adF (mlF X1 X1) (mlF Y1 Y1)) (mlF (adF X1 Y1) (adF X1 Y1)))) 56 _ rfl rfl rfl ⟨⟨9,.data⟩,by simp,rfl,rfl⟩;have h1:=hr 10 (el (adF (mlF X1 X1) (mlF Y1 Y1))) 57 _ rfl rfl rfl ⟨⟨10,.data⟩,by simp,rfl,rfl⟩;simp [Act.eval]at h0 h1 ⊢;exact⟨h0,h1⟩
     ·refine fun a' u K0 R hS hr ho h=>?_
      have h0:=hr 2 (el (mlF (suF (adF (mlF X1 X1) (mlF Y1 Y1)) (mlF (adF X1 Y1) (adF X1 Y1))) (adF (adF (mlF Z1 Z1) (mlF Z1 Z1)) (suF (mlF X1 X1) (mlF Y1 Y1))))) 49 _ rfl rfl rfl ⟨⟨2,.data⟩,by simp,rfl,rfl⟩;have h1:=hr 5 (el (mlF (suF (mlF X1 X1) (mlF Y1 Y1)) (adF (mlF X1 X1) (mlF Y1 Y1)))) 52 _ rfl rfl rfl ⟨⟨5,.data⟩,by simp,rfl,rfl⟩;have h2:=hr 8 (el (mlF (adF (adF (mlF Z1 Z1) (mlF Z1 Z1)) (suF (mlF X1 X1) (mlF Y1 Y1))) (suF (mlF X1 X1) (mlF Y1 Y1)))) 55 _ rfl rfl rfl ⟨⟨8,.data⟩,by simp,rfl,rfl⟩;have h3:=hr 11 (el (mlF (suF (adF (mlF X1 X1) (mlF Y1 Y1)) (mlF (adF X1 Y1) (adF X1 Y1))) (adF (mlF X1 X1) (mlF Y1 Y1)))) 58 _ rfl rfl rfl ⟨⟨11,.data⟩,by simp,rfl,rfl⟩;exact b1t rfl h0 h1 h2 h3 (h u (Kept.refl _ _))
    intro u7 hS7;simp [a1f,List.range,List.range.loop,Act.put];refine a5k a0l (.tmp 2) (.tmp 59) rfl rfl rfl (hS7.s (g2,72,(ptc a0j a0j a0j a0j).toArray) (by simp)) (a5s _ _ _ _) (a5s _ _ _ _) (c7f _ _ _ _) ?_;simp [Act.put];have b7:=(hS7.s (g2,72,(ptc a0j a0j a0j a0j).toArray) (by simp)).a5i (ptc (mlF (suF (adF (mlF X1 X1) (mlF Y1 Y1)) (mlF (adF X1 Y1) (adF X1 Y1))) (adF (adF (mlF Z1 Z1) (mlF Z1 Z1)) (suF (mlF X1 X1) (mlF Y1 Y1)))) (mlF (suF (mlF X1 X1) (mlF Y1 Y1)) (adF (mlF X1 X1) (mlF Y1 Y1))) (mlF (adF (adF (mlF Z1 Z1) (mlF Z1 Z1)) (suF (mlF X1 X1) (mlF Y1 Y1))) (suF (mlF X1 X1) (mlF Y1 Y1))) (mlF (suF (adF (mlF X1 X1) (mlF Y1 Y1)) (mlF (adF X1 Y1) (adF X1 Y1))) (adF (mlF X1 X1) (mlF Y1 Y1)))).toArray;have kk7:Kept [g2] u7 (u7.setRow g2 (ptc (mlF (suF (adF (mlF X1 X1) (mlF Y1 Y1)) (mlF (adF X1 Y1) (adF X1 Y1))) (adF (adF (mlF Z1 Z1) (mlF Z1 Z1)) (suF (mlF X1 X1) (mlF Y1 Y1)))) (mlF (suF (mlF X1 X1) (mlF Y1 Y1)) (adF (mlF X1 X1) (mlF Y1 Y1))) (mlF (adF (adF (mlF Z1 Z1) (mlF Z1 Z1)) (suF (mlF X1 X1) (mlF Y1 Y1))) (suF (mlF X1 X1) (mlF Y1 Y1))) (mlF (suF (adF (mlF X1 X1) (mlF Y1 Y1)) (mlF (adF X1 Y1) (adF X1 Y1))) (adF (mlF X1 X1) (mlF Y1 Y1)))).toArray):=(Kept.refl [g2] u7).setRow (.inl (by simp)) _;have k7:=hS7.k.a0r kk7 hl2.out;clear kk7 hS7;go_wp2_with fail;exact a1m a0l rfl rfl b7 (a5s _ _ _ _) rfl ⟨rfl,k7⟩
end Go.Proofs.YtdbngnlpafcogaaGreat
namespace Go.Proofs.YtdbngnlpafcogaaGreat
open Go.RowKit Go.Mem Go.Txt
structure P4 where
 x:Nat→Nat
 y:Nat→Nat
 z:Nat→Nat
 t:Nat→Nat
def P4.c(p:P4):List Value:=ptc p.x p.y p.z p.t
abbrev P4.v(p:P4):Value:=.agg p.c.toArray
structure P4.Ok (p:P4):Prop where
 x:Lim p.x
 y:Lim p.y
 z:Lim p.z
 t:Lim p.t
theorem P4.one(p:P4):p.c.toArray.all (·.oneCell')=true:=c7f _ _ _ _
theorem P4.size(p:P4):p.c.toArray.size=20:=a5s _ _ _ _
def pz:P4:=⟨a0j,a0j,a0j,a0j⟩
theorem d3a:pz.Ok:=⟨b0k,b0k,b0k,b0k⟩
theorem a4e:(Tryz.prog.info? 72).map (·.zero)=some (some pz.v):=c6o
theorem a7b:Tryz.prog.built 72 []=some pz.c.toArray:=d2u
def afQ(X Y:Nat→Nat):P4:=⟨X,Y,smL 1,mlF X Y⟩
theorem a2j(v:Nat)(h:v < 18446744073709551616):Lim (smL v):=(Rep.small v h).lim
theorem c8x{X Y:Nat→Nat}(hX:Lim X)(hY:Lim Y):(afQ X Y).Ok:=⟨hX,hY,a2j 1 (by omega),a0i hX hY⟩
def P4.n(p:P4):List Nat:=fam 5 p.x ++ (fam 5 p.y ++ (fam 5 p.z ++ fam 5 p.t))
theorem d1p(p q:P4):lits p.x p.y p.z p.t=lits q.x q.y q.z q.t↔p.n=q.n:=by
 have e:∀p:P4,lits p.x p.y p.z p.t=p.n.map fun(n:Nat)=>Lit.int .u64 (n:Int):=fun p=>by simp [lits,li,P4.n]
 rw [e,e];refine⟨fun h=>?_,fun h=>by rw [h]⟩;exact(List.map_inj_right (fun a b hab=>by simp only [Lit.int.injEq,true_and]at hab;omega)).1 h
def P4.same(p q:P4):Bool:=decide (p.n=q.n)
def P4.none(p:P4):Bool:=p.same pz
def rtQ(p:P4):P4:=if p.none then afQ (smL 0) (smL 1)else p
theorem a6m{p:P4}(h:p.Ok):(rtQ p).Ok:=by
 unfold rtQ;split
 ·exact c8x (a2j 0 (by omega)) (a2j 1 (by omega))
 ·exact h
def plQ(p q:P4)(K:Nat→Nat):P4:=
 let a:=mlF (suF p.y p.x) (suF q.y q.x)
 let b:=mlF (adF p.y p.x) (adF q.y q.x)
 let c:=mlF (mlF p.t K) q.t
 let d:=adF (mlF p.z q.z) (mlF p.z q.z)
 ⟨mlF (suF b a) (suF d c),mlF (adF d c) (adF b a),mlF (suF d c) (adF d c),mlF (suF b a) (adF b a)⟩
theorem b4f{p q:P4}{K:Nat→Nat}(hp:p.Ok)(hq:q.Ok)(hK:Lim K):(plQ p q K).Ok:=by
 have a:=a0i (a1h hp.y hp.x) (a1h hq.y hq.x);have b:=a0i (a0v hp.y hp.x) (a0v hq.y hq.x);have c:=a0i (a0i hp.t hK) hq.t;have d:=a0v (a0i hp.z hq.z) (a0i hp.z hq.z);exact⟨a0i (a1h b a) (a1h d c),a0i (a0v d c) (a0v b a),a0i (a1h d c) (a0v d c),a0i (a1h b a) (a0v b a)⟩
def dbQ(p:P4):P4:=
 let a:=mlF p.x p.x
 let b:=mlF p.y p.y
 let c:=mlF p.z p.z
 let h:=adF a b
 let s:=adF p.x p.y
 let e:=suF h (mlF s s)
 let g:=suF a b
 let f:=adF (adF c c) g
 ⟨mlF e f,mlF g h,mlF f g,mlF e h⟩
theorem c7t{p:P4}(hp:p.Ok):(dbQ p).Ok:=by
 have a:=a0i hp.x hp.x;have b:=a0i hp.y hp.y;have c:=a0i hp.z hp.z;have h:=a0v a b;have s:=a0v hp.x hp.y;have e:=a1h h (a0i s s);have g:=a1h a b;have f:=a0v (a0v c c) g;exact⟨a0i e f,a0i g h,a0i f g,a0i e h⟩
abbrev e5g(p q:P4)(K:Nat→Nat)(r:P4):Prop:=∀W,Calls Tryz.prog 95 #[p.v,q.v,el K] W fun e w'=>e= .returned r.v∧Kept [] W w'
abbrev P1C(f:FuncId)(p r:P4):Prop:=∀W,Calls Tryz.prog f #[p.v] W fun e w'=>e= .returned r.v∧Kept [] W w'
theorem b3p{p q:P4}{K:Nat→Nat}(hp:p.Ok)(hq:q.Ok)(hK:Lim K):e5g p q K (plQ p q K):=fun W=>d7u p.x p.y p.z p.t q.x q.y q.z q.t K hp.x hp.y hp.z hp.t hq.x hq.y hq.z hq.t hK W
theorem e5z{p:P4}(hp:p.Ok):P1C 94 p (dbQ p):=fun W=>c4p p.x p.y p.z p.t hp.x hp.y hp.z W
theorem b3s(xs:Array Value)(w:World):(callFunc 97 xs).run Tryz.prog w= .ok (.enter 97 xs) w:=enters_of (c:=_) Tryz.func97 (by kernel_rfl) rfl xs w
theorem a8h(xs:Array Value)(w:World):(callFunc 95 xs).run Tryz.prog w= .ok (.enter 95 xs) w:=enters_of (c:=_) Tryz.func95 (by kernel_rfl) rfl xs w
theorem c4s(xs:Array Value)(w:World):(callFunc 92 xs).run Tryz.prog w= .ok (.enter 92 xs) w:=enters_of (c:=_) Tryz.func92 (by kernel_rfl) rfl xs w
theorem a7k(xs:Array Value)(w:World):(callFunc 117 xs).run Tryz.prog w= .ok (.enter 117 xs) w:=enters_of (c:=_) Tryz.func117 (by kernel_rfl) rfl xs w
theorem c0u{p q:P4}(h:p.Ok)(h2:q.Ok)(W:World):(Op.equalIn 10000 72 p.v q.v).run Tryz.prog W= .ok (p.same q) W:=by
 obtain⟨r,hr,hiff⟩:=eq_pt h.x h.y h.z h.t h2.x h2.y h2.z h2.t W;have hiff2:=hiff.trans (d1p p q);have e:r=p.same q:=by
  unfold P4.same
  cases r with
  | true=>exact(decide_eq_true (hiff2.1 rfl)).symm
  | false=>exact(decide_eq_false fun hz=>absurd (hiff2.2 hz) (by simp)).symm
 rw [←e];exact hr
theorem d8p{p:P4}(h:p.Ok)(W:World):(Op.equalIn 10000 72 p.v pz.v).run Tryz.prog W= .ok p.none W:=c0u h d3a W
theorem b8c(v:Nat)(h:v < 18446744073709551616):SmC v (smL v):=fun W=>b5t v W h
set_option maxHeartbeats 1600000 in
theorem e6q(C O Z1:Array Value)(b:Bool)(h1:C.size=20)(h2:O.size=20)(h3:Z1.size=20)(h4:C.all (·.oneCell')=true)(h5:Z1.all (·.oneCell')=true)(u0:Tryz.prog.built 72 []=some O)(z:(Tryz.prog.info? 72).map (·.zero)=some (some (.agg O)))
 (q:∀W,(Op.equalIn 10000 72 (.agg C) (.agg O)).run Tryz.prog W= .ok b W) (ca:∀W,Calls Tryz.prog 89 #[el (smL 0),el (smL 1)] W fun e w'=>e= .returned (.agg Z1)∧Kept [] W w') (w:World) :
 Calls Tryz.prog 97 #[.agg C] w fun e w'=>e= .returned (.agg (if b then Z1 else C))∧Kept [] w w':=by
 replace h1:=hjd h1;replace h2:=hjd h2;replace h3:=hjd h3;replace h4:=hjd h4;replace h5:=hjd h5;replace u0:=hjd u0;replace z:=hjd z;replace ca:=hjd ca;have c0:=hjd e2v;have c1:=hjd e3u
 cases b with
 | false=>
   go_enter Tryz.func97,Tryz.ntmps97;go_wp2_with (first
    | ((with_reducible refine a0q (o:=⟨some 1,_,_,_,_,_⟩) (v:=.agg C) rfl (.tmp 0) rfl rfl ?_);intro g1 w1 m1;have B1:=hjd (show Blk w1 g1 72 C from m1.blk))
    | ((with_reducible refine a0h (o:=⟨some 2,_,_,_,_,_⟩) rfl rfl z.out ?_);intro g2 w2 m2;have B2:=hjd (show Blk w2 g2 72 O from m2.blk))
    | (with_reducible refine a0d (o:=⟨some 3,_,_,_,_,_⟩) a0l rfl (.tmp 1) rfl rfl (B1.out.kept m2.kept (by simp)) h1.out ?_)
    | (with_reducible refine a0y (o:=⟨some 4,_,_,_,_,_⟩) rfl rfl u0.out ?_)
    | (with_reducible refine a0d (o:=⟨some 9,_,_,_,_,_⟩) a0l rfl (.tmp 1) rfl rfl (B1.out.kept m2.kept (by simp)) h1.out ?_)
    | ((with_reducible refine a0a (o:=⟨none,.store 72 (.tmp 2) (.tmp 9),_,_,_,_⟩) a0l rfl (.tmp 2) (.tmp 9) rfl rfl rfl B2.out h2.out h1.out h4.out ?_);intro v2 b2 k2))
   exact a1m a0l rfl rfl b2 h1.out rfl ⟨rfl,(m1.kept.a0g m2.kept).a0r k2 (Nat.le_trans m1.kept.size m2.le)⟩
 | true=>
   go_enter Tryz.func97,Tryz.ntmps97;go_wp2_with (first
    | ((with_reducible refine a0q (o:=⟨some 1,_,_,_,_,_⟩) (v:=.agg C) rfl (.tmp 0) rfl rfl ?_);intro g1 w1 m1;have B1:=hjd (show Blk w1 g1 72 C from m1.blk))
    | ((with_reducible refine a0h (o:=⟨some 2,_,_,_,_,_⟩) rfl rfl z.out ?_);intro g2 w2 m2;have B2:=hjd (show Blk w2 g2 72 O from m2.blk))
    | (with_reducible refine a0d (o:=⟨some 3,_,_,_,_,_⟩) a0l rfl (.tmp 1) rfl rfl (B1.out.kept m2.kept (by simp)) h1.out ?_)
    | (with_reducible refine a0y (o:=⟨some 4,_,_,_,_,_⟩) rfl rfl u0.out ?_)
    | (go_at_call 114;(with_reducible refine(c0.out _).mono ?_);rintro e y1 ⟨rfl,kk1⟩;have B3:=hjd (B2.out.kept kk1 (by simp)))
    | (go_at_call 114;(with_reducible refine(c1.out _).mono ?_);rintro e y2 ⟨rfl,kk2⟩;have B4:=hjd (B3.out.kept kk2 (by simp)))
    | (go_at_call 89;(with_reducible refine(ca.out _).mono ?_);rintro e y3 ⟨rfl,kk3⟩;have B5:=hjd (B4.out.kept kk3 (by simp)))
    | ((with_reducible refine a0a (o:=⟨none,.store 72 (.tmp 2) (.tmp 8),_,_,_,_⟩) a0l rfl (.tmp 2) (.tmp 8) rfl rfl rfl B5.out h2.out h3.out h5.out ?_);intro v2 b2 k2))
   exact a1m a0l rfl rfl b2 h3.out rfl ⟨rfl,((((m1.kept.a0g m2.kept).a0g kk1).a0g kk2).a0g kk3).a0r k2 (Nat.le_trans m1.kept.size m2.le)⟩
theorem b0t{p:P4}(h:p.Ok):P1C 97 p (rtQ p):=fun W=>by
 have e:=e6q p.c.toArray pz.c.toArray (afQ (smL 0) (smL 1)).c.toArray p.none p.size pz.size (P4.size _) p.one (P4.one _) a7b a4e (d8p h) (b0d (smL 0) (smL 1) (a2j 0 (by omega)) (a2j 1 (by omega))) W;unfold rtQ
 cases hb:p.none with
 | true=>rw [hb]at e;exact e
 | false=>rw [hb]at e;exact e
end Go.Proofs.YtdbngnlpafcogaaGreat
namespace Go.Proofs.YtdbngnlpafcogaaGreat
open Go.RowKit Go.Mem Go.Txt
section
variable {P:Program} {w:World} {ops:Array Oper} {rest:List Oper} {o:Oper} {a:Act} {Q:Exit→Act→World→Prop} {t:TypeId}
theorem a9w(hgd:Region.wanted o (yielded ops a.tmps)=true)(parts:Array (Nat × Operand))(ho:o.op= .build t parts){L:List (Nat × Value)}(he:(parts.map fun(p:Nat × Operand)=>(p.1,a.eval p.2)).toList=L){cs:Array Value}(hb:P.built t L=some cs)(h:wpList P ops Q rest (a.put o.dst (.agg cs)) w):wpList P ops Q (o :: rest) a w:=by
 refine a1u hgd fun _ hK=>wp_build t parts ho (by rw [he,hb];rfl) (hK _ _ ?_)
 rw [he,hb];exact h
end
def parts(bs:List UInt8):List (Nat × Value):=bs.mapIdx fun i b=>(i,.int .u8 (b.toNat:Int))
abbrev ElC(bs:List UInt8):Prop:=∀W,Calls Tryz.prog 90 #[ab bs] W fun e w'=>e= .returned (el (b2w bs))∧Kept [] W w'
set_option maxHeartbeats 1600000 in
theorem a5p(bs:List UInt8)(hl:bs.length=32):ElC bs:=by
 intro w;have hbl:=hjd (show(bv bs).length=32 by simp [hl]);have cn:=hjd (a7e bs hl);clear hl;generalize b2w bs=F at *;generalize e1r bs=ok at *;go_enter Tryz.func90,Tryz.ntmps90;go_wp2_with (first
  | ((with_reducible refine a0q (o:=⟨some 1,_,_,_,_,_⟩) (v:=ab bs) rfl (.tmp 0) rfl rfl ?_);intro g1 w1 m1)
  | ((with_reducible refine a0h (o:=⟨some 2,_,_,_,_,_⟩) rfl rfl a1b ?_);intro g2 w2 m2;have B1:=hjd (m1.blk.kept m2.kept (by simp)))
  | (refine a0t a2u rfl (.tmp 1) rfl rfl B1.out hbl.out ?_)
  | (go_at_call 113;(with_reducible refine(cn.out _).mono ?_);rintro e y ⟨rfl,kk⟩;have B2:=hjd (m2.blk.kept kk (by simp)))
  | ((with_reducible refine a0h (o:=⟨some 3,_,_,_,_,_⟩) rfl rfl a1b ?_);intro g3 w3 m3;have B3:=hjd (B2.out.kept m3.kept (by simp)))
  | ((with_reducible refine a0a (o:=⟨none,.store 70 (.tmp 3) (.tmp 8),_,_,_,_⟩) a0c rfl (.tmp 3) (.tmp 8) rfl rfl rfl m3.blk rfl rfl (a0u _) ?_);intro v4 b4 k4;have B4:=hjd (B3.out.kept k4 (by simpa using fun e=>m3.ne B2.out.lt e)))
  | (with_reducible refine a0d (o:=⟨some 10,_,_,_,_,_⟩) a0c rfl (.tmp 3) rfl rfl b4 rfl ?_)
  | ((with_reducible refine a0a (o:=⟨none,.store 70 (.tmp 2) (.tmp 10),_,_,_,_⟩) a0c rfl (.tmp 2) (.tmp 10) rfl rfl rfl B4.out rfl rfl (a0u _) ?_);intro v5 b5 k5))
 have K2:=m1.kept.a0g m2.kept;have K3:=(K2.a0g kk).a0g m3.kept;exact a1m a0c rfl rfl b5 rfl rfl ⟨rfl,(K3.a0r k4 (Nat.le_trans (K2.a0g kk).size m3.le)).a0r k5 (Nat.le_trans m1.kept.size m2.le)⟩
def e5s:List UInt8:=[163,120,89,19,202,77,235,117,171,216,65,65,77,10,112,0,152,232,121,119,121,64,199,140,115,254,111,43,238,108,3,82]
def c4j:List UInt8:=[89,241,178,38,148,155,214,235,86,177,131,130,154,20,224,0,48,209,243,238,242,128,142,25,231,252,223,86,220,217,6,36]
def bxB:List UInt8:=[26,213,37,143,96,45,86,201,178,167,37,149,96,199,44,105,92,220,214,253,49,226,164,192,254,83,110,205,211,54,105,33]
def byB:List UInt8:=[88,102,102,102,102,102,102,102,102,102,102,102,102,102,102,102,102,102,102,102,102,102,102,102,102,102,102,102,102,102,102,102]
theorem d6t:Tryz.prog.built 22 (parts e5s)=some (bv e5s).toArray:=by kernel_rfl
theorem d0z:Tryz.prog.built 22 (parts c4j)=some (bv c4j).toArray:=by kernel_rfl
theorem d9s:Tryz.prog.built 22 (parts bxB)=some (bv bxB).toArray:=by kernel_rfl
theorem e1g:Tryz.prog.built 22 (parts byB)=some (bv byB).toArray:=by kernel_rfl
def kD:Nat→Nat:=b2w e5s
def kK:Nat→Nat:=b2w c4j
def baQ:P4:=afQ (b2w bxB) (b2w byB)
theorem a7w:Lim kD:=a3q _
theorem a4y:Lim kK:=a3q _
theorem c7n:baQ.Ok:=c8x (a3q _) (a3q _)
set_option maxHeartbeats 1600000 in
theorem b5o(w:World):Calls Tryz.prog 117 #[] w fun e w'=>e= .returned (el kD)∧Kept [] w w':=by
 have ce:=hjd (show∀W,Calls Tryz.prog 90 #[.agg (bv e5s).toArray] W fun e w'=>e= .returned (el kD)∧Kept [] W w' from a5p e5s rfl);have bu:=hjd d6t;generalize hb:(bv e5s).toArray=B at *;clear hb;generalize hP:parts e5s=PL at *;go_enter Tryz.func117,Tryz.ntmps117;go_wp2_with (first
  | ((with_reducible refine a0h (o:=⟨some 0,_,_,_,_,_⟩) rfl rfl a1b ?_);intro g0 w0 m0)
  | (with_reducible refine a9w (o:=⟨some 1,_,_,_,_,_⟩) rfl _ rfl (by rw [←hP];kernel_rfl) bu.out ?_)
  | (go_at_call 90;(with_reducible refine(ce.out _).mono ?_);rintro e y ⟨rfl,kk⟩;have B0:=hjd (m0.blk.kept kk (by simp)))
  | ((with_reducible refine a0a (o:=⟨none,.store 70 (.tmp 0) (.tmp 2),_,_,_,_⟩) a0c rfl (.tmp 0) (.tmp 2) rfl rfl rfl B0.out rfl rfl (a0u _) ?_);intro v4 b4 k4))
 exact a1m a0c rfl rfl b4 rfl rfl ⟨rfl,(m0.kept.a0g kk).a0r k4 m0.le⟩
set_option maxHeartbeats 1600000 in
theorem b4m(w:World):Calls Tryz.prog 92 #[] w fun e w'=>e= .returned (el kK)∧Kept [] w w':=by
 have ce:=hjd (show∀W,Calls Tryz.prog 90 #[.agg (bv c4j).toArray] W fun e w'=>e= .returned (el kK)∧Kept [] W w' from a5p c4j rfl);have bu:=hjd d0z;generalize hb:(bv c4j).toArray=B at *;clear hb;generalize hP:parts c4j=PL at *;go_enter Tryz.func92,Tryz.ntmps92;go_wp2_with (first
  | ((with_reducible refine a0h (o:=⟨some 0,_,_,_,_,_⟩) rfl rfl a1b ?_);intro g0 w0 m0)
  | (with_reducible refine a9w (o:=⟨some 1,_,_,_,_,_⟩) rfl _ rfl (by rw [←hP];kernel_rfl) bu.out ?_)
  | (go_at_call 90;(with_reducible refine(ce.out _).mono ?_);rintro e y ⟨rfl,kk⟩;have B0:=hjd (m0.blk.kept kk (by simp)))
  | ((with_reducible refine a0a (o:=⟨none,.store 70 (.tmp 0) (.tmp 2),_,_,_,_⟩) a0c rfl (.tmp 0) (.tmp 2) rfl rfl rfl B0.out rfl rfl (a0u _) ?_);intro v4 b4 k4))
 exact a1m a0c rfl rfl b4 rfl rfl ⟨rfl,(m0.kept.a0g kk).a0r k4 m0.le⟩
set_option maxHeartbeats 1600000 in
theorem b5c(w:World):Calls Tryz.prog 31 #[] w fun e w'=>e= .returned baQ.v∧Kept [] w w':=by
 have ce:=hjd (show∀W,Calls Tryz.prog 90 #[.agg (bv bxB).toArray] W fun e w'=>e= .returned (el (b2w bxB))∧Kept [] W w' from a5p bxB rfl);have cf:=hjd (show∀W,Calls Tryz.prog 90 #[.agg (bv byB).toArray] W fun e w'=>e= .returned (el (b2w byB))∧Kept [] W w' from a5p byB rfl);have ca:=hjd (show∀W,Calls Tryz.prog 89 #[el (b2w bxB),el (b2w byB)] W fun e w'=>e= .returned baQ.v∧Kept [] W w' from b0d _ _ (a3q _) (a3q _));have bu:=hjd d9s;have bw:=hjd e1g;generalize b2w bxB=FX at *;generalize b2w byB=FY at *;generalize hb:(bv bxB).toArray=B at *;clear hb;generalize hP:parts bxB=PL at *;generalize hb2:(bv byB).toArray=B2 at *;clear hb2;generalize hP2:parts byB=PL2 at *;generalize baQ=r at *;go_enter Tryz.func31,Tryz.ntmps31;go_wp2_with (first
  | ((with_reducible refine a0h (o:=⟨some 0,_,_,_,_,_⟩) rfl rfl a4e ?_);intro g0 w0 m0)
  | (with_reducible refine a9w (o:=⟨some 1,_,_,_,_,_⟩) rfl _ rfl (by rw [←hP];kernel_rfl) bu.out ?_)
  | (with_reducible refine a9w (o:=⟨some 3,_,_,_,_,_⟩) rfl _ rfl (by rw [←hP2];kernel_rfl) bw.out ?_)
  | (go_at_call 90;(with_reducible refine(ce.out _).mono ?_);rintro e y ⟨rfl,kk⟩;have B0:=hjd (m0.blk.kept kk (by simp)))
  | (go_at_call 90;(with_reducible refine(cf.out _).mono ?_);rintro e y2 ⟨rfl,kk2⟩;have B02:=hjd (B0.out.kept kk2 (by simp)))
  | (go_at_call 89;(with_reducible refine(ca.out _).mono ?_);rintro e y3 ⟨rfl,kk3⟩;have B03:=hjd (show Blk y3 g0 72 pz.c.toArray from B02.out.kept kk3 (by simp)))
  | ((with_reducible refine a0a (o:=⟨none,.store 72 (.tmp 0) (.tmp 5),_,_,_,_⟩) a0l rfl (.tmp 0) (.tmp 5) rfl rfl rfl B03.out pz.size r.size r.one ?_);intro v4 b4 k4))
 exact a1m a0l rfl rfl b4 r.size rfl ⟨rfl,(((m0.kept.a0g kk).a0g kk2).a0g kk3).a0r k4 m0.le⟩
def adQ(p q:P4):P4:=plQ (rtQ p) (rtQ q) kK
theorem adQ_ok{p q:P4}(hp:p.Ok)(hq:q.Ok):(adQ p q).Ok:=b4f (a6m hp) (a6m hq) a4y
abbrev AddC(p q r:P4):Prop:=∀W,Calls Tryz.prog 119 #[p.v,q.v] W fun e w'=>e= .returned r.v∧Kept [] W w'
set_option maxHeartbeats 1600000 in
theorem add_c{p q:P4}(hp:p.Ok)(hq:q.Ok):AddC p q (adQ p q):=by
 intro w;have c1:=hjd (b0t hp);have c2:=hjd (b0t hq);have c3:=hjd (show∀W,Calls Tryz.prog 95 #[(rtQ p).v,(rtQ q).v,el kK] W fun e w'=>e= .returned (adQ p q).v∧Kept [] W w' from b3p (a6m hp) (a6m hq) a4y);have c4:=hjd b4m;clear hp hq;generalize kK=K at *;have z:=hjd a4e;generalize rtQ p=p2 at *;generalize rtQ q=q2 at *;generalize adQ p q=r at *;go_enter Tryz.func119,Tryz.ntmps119;go_wp2_with (first
  | ((with_reducible refine a0q (o:=⟨some 2,_,_,_,_,_⟩) (v:=p.v) rfl (.tmp 0) rfl rfl ?_);intro g2 w2 m2)
  | ((with_reducible refine a0q (o:=⟨some 3,_,_,_,_,_⟩) (v:=q.v) rfl (.tmp 1) rfl rfl ?_);intro g3 w3 m3)
  | ((with_reducible refine a0h (o:=⟨some 4,_,_,_,_,_⟩) rfl rfl z.out ?_);intro g4 w4 m4))
 have t0:=((((Pm.none w).kept m2.kept).cons m2.blk).kept m3.kept |>.cons m3.blk).kept m4.kept;have hl4:=hjd (Nat.le_trans (m2.kept.a0g m3.kept).size m4.le);have t:=hjd (show Pm w [(g4,72,pz.c.toArray),(g3,72,q.c.toArray),(g2,72,p.c.toArray)] w4 from t0.cons m4.blk);clear m2 m3 m4 t0;refine a6n (by kernel_rfl) [p.v,p2.v,q.v,q2.v,el K,r.v]
  (Pm w [(g4,72,pz.c.toArray),(g3,72,q.c.toArray),(g2,72,p.c.toArray)]) (by kernel_rfl) rfl rfl (by kernel_rfl) t.out.drew (fun u u' h hk=>h.kept hk) ?_ ?_
 ·refine⟨?_,?_,?_,?_,?_,?_,trivial⟩
  ·exact fun a' u K0 R hS hr ho h=>a0o a0l (.tmp 2) rfl ((ho 2 (by decide)).trans rfl) (hS.s (g2,72,p.c.toArray) (by simp)) p.size (h u (Kept.refl _ _))
  ·refine fun a' u K0 R hS hr ho h=>a0n rfl b3s (vs:=#[p.v]) ?_ (c1.out u) h
   have h0:=hr 0 p.v 5 _ rfl rfl rfl ⟨⟨0,.data⟩,by simp,rfl,rfl⟩;simp [Act.eval]at h0 ⊢;exact h0
  ·exact fun a' u K0 R hS hr ho h=>a0o a0l (.tmp 3) rfl ((ho 3 (by decide)).trans rfl) (hS.s (g3,72,q.c.toArray) (by simp)) q.size (h u (Kept.refl _ _))
  ·refine fun a' u K0 R hS hr ho h=>a0n rfl b3s (vs:=#[q.v]) ?_ (c2.out u) h
   have h0:=hr 2 q.v 7 _ rfl rfl rfl ⟨⟨2,.data⟩,by simp,rfl,rfl⟩;simp [Act.eval]at h0 ⊢;exact h0
  ·exact fun a' u K0 R hS hr ho h=>a0n rfl c4s (vs:=#[]) (by simp) (c4.out u) h
  ·refine fun a' u K0 R hS hr ho h=>a0n rfl a8h (vs:=#[p2.v,q2.v,el K]) ?_ (c3.out u) h
   have h0:=hr 1 p2.v 6 _ rfl rfl rfl ⟨⟨1,.data⟩,by simp,rfl,rfl⟩;have h1:=hr 3 q2.v 8 _ rfl rfl rfl ⟨⟨3,.data⟩,by simp,rfl,rfl⟩;have h2:=hr 4 (el K) 9 _ rfl rfl rfl ⟨⟨4,.data⟩,by simp,rfl,rfl⟩;simp [Act.eval]at h0 h1 h2 ⊢;exact⟨h0,h1,h2⟩
 intro u7 hS7;simp [a1f,List.range,List.range.loop,Act.put];refine a5k a0l (.tmp 4) (.tmp 10) rfl rfl rfl (hS7.s (g4,72,pz.c.toArray) (by simp)) pz.size r.size r.one ?_;simp [Act.put];have b7:=(hS7.s (g4,72,pz.c.toArray) (by simp)).a5i r.c.toArray;have kk7:Kept [g4] u7 (u7.setRow g4 r.c.toArray):=(Kept.refl [g4] u7).setRow (.inl (by simp)) _;have k7:=hS7.k.a0r kk7 hl4.out;clear kk7 hS7;go_wp2_with fail;exact a1m a0l rfl rfl b7 r.size rfl ⟨rfl,k7⟩
end Go.Proofs.YtdbngnlpafcogaaGreat
namespace Go.Proofs.YtdbngnlpafcogaaGreat
open Go.RowKit Go.Mem Go.Txt
theorem or128:∀n:Nat,n < 128→bits .or .u8 ((n:Nat):Int) 128=((n + 128:Nat):Int):=by decide +kernel
theorem b5v:∀n:Nat,n < 256→bits .and .u8 ((n:Nat):Int) 127=((n % 128:Nat):Int):=by decide +kernel
theorem shr7:∀n:Nat,n < 256→(((n:Nat):Int) / 2 ^ 7=1↔128≤n):=by decide +kernel
def d1k:Nat:=452312848583266388373324160190187140051835877600158453279131187530910662656
def c31(X:Nat):Nat:=X / d1k % 256
theorem a9m(X:Nat):c31 X < 256:=Nat.mod_lt _ (by decide)
theorem le31(X:Nat):(le X 32)[31]'(by rw [a0x];decide)=UInt8.ofNat (c31 X):=by
 rw [b3z _ _ _ (by decide)];rfl
theorem d5s(X:Nat):(UInt8.ofNat (c31 X)).toNat=c31 X:=by
 have:=a9m X;simp;omega
theorem Blk.c3d{w:World}{g:Nat}{bt:TypeId}{X:Nat}(h:Blk w g bt (bv (le X 32)).toArray):w.cell? ⟨g,31,none⟩=some (.int .u8 ((c31 X:Nat):Int)):=by
 have:=h.bget 31 (by rw [a0x];decide);rw [le31,d5s]at this;exact this
theorem Blk.c1p{w:World}{g:Nat}{bt:TypeId}{X Y:Nat}(h:Blk w g bt (bv (le X 32)).toArray)(e:X % d1k=Y % d1k):Blk (w.setCell ⟨g,31,none⟩ (.int .u8 ((c31 Y:Nat):Int))) g bt (bv (le Y 32)).toArray:=by
 have h2:=h.b3i 31 (.int .u8 ((c31 Y:Nat):Int));have e2:(bv (le X 32)).toArray.setIfInBounds 31 (.int .u8 ((c31 Y:Nat):Int))=(bv (le Y 32)).toArray:=by
  rw [List.setIfInBounds_toArray];congr 1;apply List.ext_getElem
  ·simp [a0x]
  ·intro i h1 h3;rw [List.getElem_set];have hi:i < 32:=by simpa [a0x]using h1
   split
   ·subst i;simp only [List.getElem_map];rw [le31];show _=Value.int .u8 (((UInt8.ofNat (c31 Y)).toNat:Nat):Int);rw [d5s]
   ·have hi2:i < 31:=by omega
    simp only [List.getElem_map];rw [b3z _ _ _ hi,b3z _ _ _ hi];have e3:∀Z:Nat,Z / 2 ^ (8 * i) % 256=Z % d1k / 2 ^ (8 * i) % 256:=fun Z=>by
     have e4:d1k=2 ^ (8 * i) * (256 * 2 ^ (8 * (30 - i))):=by
      rw [show(256:Nat)=2 ^ 8 from rfl,←Nat.pow_add,←Nat.pow_add,show 8 * i + (8 + 8 * (30 - i))=248 from by omega];decide +kernel
     rw [e4,Nat.mod_mul_right_div_self,Nat.mod_mul_right_mod]
    rw [e3 X,e3 Y,e]
 rw [e2]at h2;exact h2
theorem e5r(Y:Nat)(h:Y < PP):c31 (Y + a4k)=c31 Y + 128∧c31 Y < 128∧Y % d1k=(Y + a4k) % d1k:=by
 unfold c31 d1k a4k PP at *;omega
theorem odd_c{F:Nat→Nat}(h:Lim F):OdC F (decide (fv F % PP % 2=1)):=fun W=>d2q F W h
theorem inv_c{F:Nat→Nat}(h:Lim F)(W:World):Calls Tryz.prog 98 #[el F] W fun e w'=>e= .returned (el (c0y F))∧Kept [] W w':=d5q F h W
theorem P4.px{p:P4}{u:World}{g:Nat}{bt:TypeId}(h:Blk u g bt p.c.toArray):u.rangeAt g 0 (uv (fam 5 p.x)):=e3o h
theorem P4.py{p:P4}{u:World}{g:Nat}{bt:TypeId}(h:Blk u g bt p.c.toArray):u.rangeAt g 5 (uv (fam 5 p.y)):=e2e h
theorem P4.pzz{p:P4}{u:World}{g:Nat}{bt:TypeId}(h:Blk u g bt p.c.toArray):u.rangeAt g 10 (uv (fam 5 p.z)):=pt_z h
theorem P4.pt{p:P4}{u:World}{g:Nat}{bt:TypeId}(h:Blk u g bt p.c.toArray):u.rangeAt g 15 (uv (fam 5 p.t)):=pt_t h
def encR(r:P4):Nat:=fv (mlF r.y (c0y r.z)) % PP + (if fv (mlF r.x (c0y r.z)) % PP % 2=1 then a4k else 0)
def e4u(p:P4):Nat:=encR (rtQ p)
abbrev PhC(p:P4)(X:Nat):Prop:=∀W,Calls Tryz.prog 33 #[p.v] W fun e w'=>e= .returned (ab (le X 32))∧Kept [] W w'
set_option maxHeartbeats 1600000 in
theorem d6f{p:P4}(hp:p.Ok):PhC p (e4u p):=by
 intro w;have hr:=a6m hp;have cr:=hjd (b0t hp);have e0:e4u p=encR (rtQ p):=rfl;rw [e0];clear e0 hp;generalize rtQ p=r at *;have li:=b4p hr.z;have ci:=hjd (inv_c hr.z);have cy:=hjd (b1i hr.y li);have cx:=hjd (b1i hr.x li);have ch:=hjd (fun W=>a5c _ W (a0i hr.y li));have co:=hjd (odd_c (a0i hr.x li));unfold encR;generalize c0y r.z=I at *;generalize mlF r.y I=YI at *;generalize mlF r.x I=XI at *;have hY:=e5r (fv YI % PP) (Nat.mod_lt _ a3l);generalize fv YI % PP=Y at *;clear li hr;have hl:(bv (le Y 32)).length=32:=by simp [a0x]
 have hl1:=hjd hl;have hl2:(bv (le (Y + a4k) 32)).length=32:=by simp [a0x]
 have hl3:=hjd hl2;clear hl hl2;by_cases hodd:fv XI % PP % 2=1
 ·have e2:decide (fv XI % PP % 2=1)=true:=decide_eq_true hodd;rw [e2]at co;rw [if_pos hodd];have e3:=or128 _ hY.2.1;rw [←hY.1]at e3;have e4:=hjd hY.2.2;clear e2 hodd hY;generalize hY2:Y + a4k=Y2 at *;clear hY2;have B4:True:=trivial;go_enter Tryz.func33,Tryz.ntmps33;go_wp2_with (first
   | ((with_reducible refine a0q (o:=⟨some 1,_,_,_,_,_⟩) (v:=p.v) rfl (.tmp 0) rfl rfl ?_);intro g1 w1 m1)
   | ((with_reducible refine a0h (o:=⟨some 2,_,_,_,_,_⟩) rfl rfl a8l ?_);intro g2 w2 m2;have B1:=hjd (show Blk w2 g1 72 p.c.toArray from m1.blk.kept m2.kept (by simp));have D2:=hjd (m2.ne m1.blk.lt))
   | (with_reducible refine a0d (o:=⟨some 5,_,_,_,_,_⟩) a0l rfl (.tmp 1) rfl rfl B1.out p.size ?_)
   | (go_at_call 97;(with_reducible refine(cr.out _).mono ?_);rintro e y3 ⟨rfl,kk3⟩;have B3:=hjd (B1.out.kept kk3 (by simp)))
   | ((with_reducible refine a0a (o:=⟨none,.store 72 (.tmp 1) (.tmp 6),_,_,_,_⟩) a0l rfl (.tmp 1) (.tmp 6) rfl rfl rfl B3.out p.size r.size r.one ?_);intro w4 b4 k4;have B24:=hjd ((m2.blk.kept kk3 (by simp)).kept k4 (by simpa using fun e=>D2.out e.symm)))
   | (with_reducible refine a1i (o:=⟨some 8,_,_,_,_,_⟩) a0c rfl (.tmp 7) rfl rfl (P4.pzz b4) (a2b _) ?_)
   | (go_at_call 98;(with_reducible refine(ci.out _).mono ?_);rintro e y5 ⟨rfl,kk5⟩;have B5:=hjd (b4.kept kk5 (by simp));have B25:=hjd (B24.out.kept kk5 (by simp)))
   | ((with_reducible refine a0h (o:=⟨some 3,_,_,_,_,_⟩) rfl rfl a1b ?_);intro g3 w6 m6;have D6:=hjd (m6.ne B5.out.lt);have D26:=hjd (m6.ne B25.out.lt);have B26:=hjd (B25.out.kept m6.kept (by simp));have B6:=hjd (B5.out.kept m6.kept (by simp)))
   | ((with_reducible refine a0a (o:=⟨none,.store 70 (.tmp 3) (.tmp 9),_,_,_,_⟩) a0c rfl (.tmp 3) (.tmp 9) rfl rfl rfl m6.blk rfl rfl (a0u _) ?_);intro w7 b7 k7;have B7:=hjd (B6.out.kept k7 (by simpa using D6.out));have B27:=hjd (B26.out.kept k7 (by simpa using D26.out)))
   | (with_reducible refine a1i (o:=⟨some 11,_,_,_,_,_⟩) a0c rfl (.tmp 10) rfl rfl (P4.py B7.out) (a2b _) ?_)
   | (with_reducible refine a0d (o:=⟨some 12,_,_,_,_,_⟩) a0c rfl (.tmp 3) rfl rfl b7 rfl ?_)
   | (go_at_call 99;(with_reducible refine(cy.out _).mono ?_);rintro e y8 ⟨rfl,kk8⟩;have B8:=hjd (B7.out.kept kk8 (by simp));have B28:=hjd (B27.out.kept kk8 (by simp)))
   | (go_at_call 100;(with_reducible refine(ch.out _).mono ?_);rintro e y9 ⟨rfl,kk9⟩;have B9:=hjd (B8.out.kept kk9 (by simp));have B29:=hjd (B28.out.kept kk9 (by simp));have F9:=hjd ((b7.kept kk8 (by simp)).kept kk9 (by simp)))
   | ((with_reducible refine a0h (o:=⟨some 4,_,_,_,_,_⟩) rfl rfl a8l ?_);intro g4 w10 m10;have B10:=hjd (B9.out.kept m10.kept (by simp));have B210:=hjd (B29.out.kept m10.kept (by simp));have D210:=hjd (m10.ne B29.out.lt);have F10:=hjd (F9.out.kept m10.kept (by simp));have D10:=hjd (And.intro (m10.ne B9.out.lt) (m10.ne F9.out.lt)))
   | ((refine a1p a2u rfl (.tmp 4) (.tmp 14) rfl rfl rfl m10.blk rfl (by simp [a0x]) (a3o _) ?_);intro w11 b11 k11;have B11:=hjd (B10.out.kept k11 (by simpa using D10.out.1));have B211:=hjd (B210.out.kept k11 (by simpa using D210.out));have F11:=hjd (F10.out.kept k11 (by simpa using D10.out.2)))
   | (with_reducible refine a1i (o:=⟨some 16,_,_,_,_,_⟩) a0c rfl (.tmp 15) rfl rfl (P4.px B11.out) (a2b _) ?_)
   | (with_reducible refine a0d (o:=⟨some 17,_,_,_,_,_⟩) a0c rfl (.tmp 3) rfl rfl F11.out rfl ?_)
   | (go_at_call 99;(with_reducible refine(cx.out _).mono ?_);rintro e y12 ⟨rfl,kk12⟩;have C12:=hjd (b11.kept kk12 (by simp));have B212:=hjd (B211.out.kept kk12 (by simp)))
   | (go_at_call 101;(with_reducible refine(co.out _).mono ?_);rintro e y13 ⟨rfl,kk13⟩;have C13:=hjd (C12.out.kept kk13 (by simp));have q1:=Blk.c3d C13.out;have q2:=C13.out.frozen 31;have C14:=hjd (Blk.c1p C13.out e4.out);have KC:=hjd ((Kept.refl [g4] y13).setCell (p:=⟨g4,31,none⟩) (.inl (by simp)) (.int .u8 ((c31 Y2:Nat):Int)));have B214:=hjd ((B212.out.kept kk13 (by simp)).kept KC.out (by simpa using D210.out)))
   | (refine a0t a2u rfl (.tmp 4) rfl rfl C14.out hl3.out ?_)
   | ((refine a1p a2u rfl (.tmp 2) (.tmp 24) rfl rfl rfl B214.out rfl (by simp [a0x]) (a3o _) ?_);intro w15 b15 k15))
  have K2:=m1.kept.a0g m2.kept;have K5:=((K2.a0g kk3).a0r k4 m1.le).a0g kk5;have K9:=(((K5.a0g m6.kept).a0r k7 (Nat.le_trans K5.size m6.le)).a0g kk8).a0g kk9;have K13:=(((K9.a0g m10.kept).a0r k11 (Nat.le_trans K9.size m10.le)).a0g kk12).a0g kk13;have K15:=(K13.a0r KC.out (Nat.le_trans K9.size m10.le)).a0r k15 (Nat.le_trans m1.kept.size m2.le);exact a6l a2u rfl rfl b15 (by simp [a0x]) rfl ⟨rfl,K15⟩
 ·have e2:decide (fv XI % PP % 2=1)=false:=decide_eq_false hodd;rw [e2]at co;rw [if_neg hodd,Nat.add_zero];clear e2 hodd hY hl3;go_enter Tryz.func33,Tryz.ntmps33;go_wp2_with (first
   | ((with_reducible refine a0q (o:=⟨some 1,_,_,_,_,_⟩) (v:=p.v) rfl (.tmp 0) rfl rfl ?_);intro g1 w1 m1)
   | ((with_reducible refine a0h (o:=⟨some 2,_,_,_,_,_⟩) rfl rfl a8l ?_);intro g2 w2 m2;have B1:=hjd (show Blk w2 g1 72 p.c.toArray from m1.blk.kept m2.kept (by simp));have D2:=hjd (m2.ne m1.blk.lt))
   | (with_reducible refine a0d (o:=⟨some 5,_,_,_,_,_⟩) a0l rfl (.tmp 1) rfl rfl B1.out p.size ?_)
   | (go_at_call 97;(with_reducible refine(cr.out _).mono ?_);rintro e y3 ⟨rfl,kk3⟩;have B3:=hjd (B1.out.kept kk3 (by simp)))
   | ((with_reducible refine a0a (o:=⟨none,.store 72 (.tmp 1) (.tmp 6),_,_,_,_⟩) a0l rfl (.tmp 1) (.tmp 6) rfl rfl rfl B3.out p.size r.size r.one ?_);intro w4 b4 k4;have B24:=hjd ((m2.blk.kept kk3 (by simp)).kept k4 (by simpa using fun e=>D2.out e.symm)))
   | (with_reducible refine a1i (o:=⟨some 8,_,_,_,_,_⟩) a0c rfl (.tmp 7) rfl rfl (P4.pzz b4) (a2b _) ?_)
   | (go_at_call 98;(with_reducible refine(ci.out _).mono ?_);rintro e y5 ⟨rfl,kk5⟩;have B5:=hjd (b4.kept kk5 (by simp));have B25:=hjd (B24.out.kept kk5 (by simp)))
   | ((with_reducible refine a0h (o:=⟨some 3,_,_,_,_,_⟩) rfl rfl a1b ?_);intro g3 w6 m6;have D6:=hjd (m6.ne B5.out.lt);have D26:=hjd (m6.ne B25.out.lt);have B26:=hjd (B25.out.kept m6.kept (by simp));have B6:=hjd (B5.out.kept m6.kept (by simp)))
   | ((with_reducible refine a0a (o:=⟨none,.store 70 (.tmp 3) (.tmp 9),_,_,_,_⟩) a0c rfl (.tmp 3) (.tmp 9) rfl rfl rfl m6.blk rfl rfl (a0u _) ?_);intro w7 b7 k7;have B7:=hjd (B6.out.kept k7 (by simpa using D6.out));have B27:=hjd (B26.out.kept k7 (by simpa using D26.out)))
   | (with_reducible refine a1i (o:=⟨some 11,_,_,_,_,_⟩) a0c rfl (.tmp 10) rfl rfl (P4.py B7.out) (a2b _) ?_)
   | (with_reducible refine a0d (o:=⟨some 12,_,_,_,_,_⟩) a0c rfl (.tmp 3) rfl rfl b7 rfl ?_)
   | (go_at_call 99;(with_reducible refine(cy.out _).mono ?_);rintro e y8 ⟨rfl,kk8⟩;have B8:=hjd (B7.out.kept kk8 (by simp));have B28:=hjd (B27.out.kept kk8 (by simp)))
   | (go_at_call 100;(with_reducible refine(ch.out _).mono ?_);rintro e y9 ⟨rfl,kk9⟩;have B9:=hjd (B8.out.kept kk9 (by simp));have B29:=hjd (B28.out.kept kk9 (by simp));have F9:=hjd ((b7.kept kk8 (by simp)).kept kk9 (by simp)))
   | ((with_reducible refine a0h (o:=⟨some 4,_,_,_,_,_⟩) rfl rfl a8l ?_);intro g4 w10 m10;have B10:=hjd (B9.out.kept m10.kept (by simp));have B210:=hjd (B29.out.kept m10.kept (by simp));have D210:=hjd (m10.ne B29.out.lt);have F10:=hjd (F9.out.kept m10.kept (by simp));have D10:=hjd (And.intro (m10.ne B9.out.lt) (m10.ne F9.out.lt)))
   | ((refine a1p a2u rfl (.tmp 4) (.tmp 14) rfl rfl rfl m10.blk rfl (by simp [a0x]) (a3o _) ?_);intro w11 b11 k11;have B11:=hjd (B10.out.kept k11 (by simpa using D10.out.1));have B211:=hjd (B210.out.kept k11 (by simpa using D210.out));have F11:=hjd (F10.out.kept k11 (by simpa using D10.out.2)))
   | (with_reducible refine a1i (o:=⟨some 16,_,_,_,_,_⟩) a0c rfl (.tmp 15) rfl rfl (P4.px B11.out) (a2b _) ?_)
   | (with_reducible refine a0d (o:=⟨some 17,_,_,_,_,_⟩) a0c rfl (.tmp 3) rfl rfl F11.out rfl ?_)
   | (go_at_call 99;(with_reducible refine(cx.out _).mono ?_);rintro e y12 ⟨rfl,kk12⟩;have C12:=hjd (b11.kept kk12 (by simp));have B212:=hjd (B211.out.kept kk12 (by simp)))
   | (go_at_call 101;(with_reducible refine(co.out _).mono ?_);rintro e y13 ⟨rfl,kk13⟩;have C13:=hjd (C12.out.kept kk13 (by simp));have B214:=hjd (B212.out.kept kk13 (by simp)))
   | (refine a0t a2u rfl (.tmp 4) rfl rfl C13.out hl1.out ?_)
   | ((refine a1p a2u rfl (.tmp 2) (.tmp 24) rfl rfl rfl B214.out rfl (by simp [a0x]) (a3o _) ?_);intro w15 b15 k15))
  have K2:=m1.kept.a0g m2.kept;have K5:=((K2.a0g kk3).a0r k4 m1.le).a0g kk5;have K9:=(((K5.a0g m6.kept).a0r k7 (Nat.le_trans K5.size m6.le)).a0g kk8).a0g kk9;have K13:=(((K9.a0g m10.kept).a0r k11 (Nat.le_trans K9.size m10.le)).a0g kk12).a0g kk13;have K15:=K13.a0r k15 (Nat.le_trans m1.kept.size m2.le);exact a6l a2u rfl rfl b15 (by simp [a0x]) rfl ⟨rfl,K15⟩
def ngQ(p:P4):P4:=⟨suF (smL 0) (rtQ p).x,(rtQ p).y,(rtQ p).z,suF (smL 0) (rtQ p).t⟩
theorem ngQ_ok{p:P4}(h:p.Ok):(ngQ p).Ok:=⟨a1h (a2j 0 (by omega)) (a6m h).x,(a6m h).y,(a6m h).z,a1h (a2j 0 (by omega)) (a6m h).t⟩
set_option maxHeartbeats 1600000 in
theorem neg_c{p:P4}(hp:p.Ok):P1C 52 p (ngQ p):=by
 intro w;have hr:=a6m hp;have cr:=hjd (b0t hp);have cz:=hjd e2v;have e0:ngQ p=⟨suF (smL 0) (rtQ p).x,(rtQ p).y,(rtQ p).z,suF (smL 0) (rtQ p).t⟩:=rfl;rw [e0];clear e0 hp;generalize rtQ p=r at *;have hz:=a2j 0 (by omega);generalize smL 0=Z0 at *;have cx:=hjd (c7h hz hr.x);have ct:=hjd (c7h hz hr.t);generalize suF Z0 r.x=NX at *;generalize suF Z0 r.t=NT at *;clear hr hz;go_enter Tryz.func52,Tryz.ntmps52;go_wp2_with (first
  | ((with_reducible refine a0q (o:=⟨some 1,_,_,_,_,_⟩) (v:=p.v) rfl (.tmp 0) rfl rfl ?_);intro g1 w1 m1)
  | ((with_reducible refine a0h (o:=⟨some 2,_,_,_,_,_⟩) rfl rfl a4e ?_);intro g2 w2 m2;have B1:=hjd (show Blk w2 g1 72 p.c.toArray from m1.blk.kept m2.kept (by simp));have D2:=hjd (m2.ne m1.blk.lt))
  | (with_reducible refine a0d (o:=⟨some 4,_,_,_,_,_⟩) a0l rfl (.tmp 1) rfl rfl B1.out p.size ?_)
  | (go_at_call 97;(with_reducible refine(cr.out _).mono ?_);rintro e y3 ⟨rfl,kk3⟩;have B3:=hjd (B1.out.kept kk3 (by simp)))
  | ((with_reducible refine a0a (o:=⟨none,.store 72 (.tmp 1) (.tmp 5),_,_,_,_⟩) a0l rfl (.tmp 1) (.tmp 5) rfl rfl rfl B3.out p.size r.size r.one ?_);intro w4 b4 k4;have B24:=hjd ((m2.blk.kept kk3 (by simp)).kept k4 (by simpa using fun e=>D2.out e.symm)))
  | (go_at_call 114;(with_reducible refine(cz.out _).mono ?_);rintro e y5 ⟨rfl,kk5⟩;have B5:=hjd (b4.kept kk5 (by simp));have B25:=hjd (B24.out.kept kk5 (by simp)))
  | ((with_reducible refine a0h (o:=⟨some 3,_,_,_,_,_⟩) rfl rfl a1b ?_);intro g3 w6 m6;have D6:=hjd (m6.ne B5.out.lt);have D26:=hjd (m6.ne B25.out.lt);have B26:=hjd (B25.out.kept m6.kept (by simp));have B6:=hjd (B5.out.kept m6.kept (by simp)))
  | ((with_reducible refine a0a (o:=⟨none,.store 70 (.tmp 3) (.tmp 6),_,_,_,_⟩) a0c rfl (.tmp 3) (.tmp 6) rfl rfl rfl m6.blk rfl rfl (a0u _) ?_);intro w7 b7 k7;have B7:=hjd (B6.out.kept k7 (by simpa using D6.out));have B27:=hjd (B26.out.kept k7 (by simpa using D26.out))))
 have K2:=m1.kept.a0g m2.kept;have K5:=((K2.a0g kk3).a0r k4 m1.le).a0g kk5;have K7:=(K5.a0g m6.kept).a0r k7 (Nat.le_trans K5.size m6.le);have hl2:=hjd (Nat.le_trans m1.kept.size m2.le);have t:=hjd ((((Pm.mk (w0:=w) (L:=[]) (u:=w7) (fun _ h=>absurd h (by simp)) K7).cons b7).cons B7.out).cons (show Blk w7 g2 72 pz.c.toArray from B27.out));clear K2 K5 K7 m1 m2 B1 D2 B3 B24 kk3 k4 b4 kk5 B5 B25 m6 D6 D26 B26 B6 b7 k7 B7 B27;refine a6n (by kernel_rfl) [el Z0,.pointer (some ⟨g1,0,none⟩),el r.x,el NX,.pointer (some ⟨g1,5,none⟩),el r.y,.pointer (some ⟨g1,10,none⟩),el r.z,el Z0,.pointer (some ⟨g1,15,none⟩),el r.t,el NT,(P4.mk NX r.y r.z NT).v]
  (Pm w [(g2,72,pz.c.toArray),(g1,72,r.c.toArray),(g3,70,(uv (fam 5 Z0)).toArray)]) (by kernel_rfl) rfl rfl (by kernel_rfl) t.out.drew (fun u u' h hk=>h.kept hk) ?_ ?_
 ·refine⟨?_,?_,?_,?_,?_,?_,?_,?_,?_,?_,?_,?_,?_,trivial⟩
  ·exact fun a' u K0 R hS hr ho h=>a0o a0c (.tmp 3) rfl ((ho 3 (by decide)).trans rfl) (hS.s (g3,70,(uv (fam 5 Z0)).toArray) (by simp)) rfl (h u (Kept.refl _ _))
  ·exact fun a' u K0 R hS hr ho h=>a2c (.tmp 1) rfl ((ho 1 (by decide)).trans rfl) (fa0 g1) (h u (Kept.refl _ _))
  ·exact fun a' u K0 R hS hr ho h=>a2d a0c (.tmp 8) rfl (hr 1 _ 8 _ rfl rfl rfl ⟨⟨1,.data⟩,by simp,rfl,rfl⟩) (P4.px (hS.s (g1,72,r.c.toArray) (by simp))) (a2b _) (h u (Kept.refl _ _))
  ·refine fun a' u K0 R hS hr ho h=>a0n rfl a2q (vs:=#[el Z0,el r.x]) ?_ (cx.out u) h
   have h0:=hr 0 (el Z0) 7 _ rfl rfl rfl ⟨⟨0,.data⟩,by simp,rfl,rfl⟩;have h1:=hr 2 (el r.x) 9 _ rfl rfl rfl ⟨⟨2,.data⟩,by simp,rfl,rfl⟩;simp [Act.eval]at h0 h1 ⊢;exact⟨h0,h1⟩
  ·exact fun a' u K0 R hS hr ho h=>a2c (.tmp 1) rfl ((ho 1 (by decide)).trans rfl) (fa1 g1) (h u (Kept.refl _ _))
  ·exact fun a' u K0 R hS hr ho h=>a2d a0c (.tmp 11) rfl (hr 4 _ 11 _ rfl rfl rfl ⟨⟨4,.data⟩,by simp,rfl,rfl⟩) (P4.py (hS.s (g1,72,r.c.toArray) (by simp))) (a2b _) (h u (Kept.refl _ _))
  ·exact fun a' u K0 R hS hr ho h=>a2c (.tmp 1) rfl ((ho 1 (by decide)).trans rfl) (fa2 g1) (h u (Kept.refl _ _))
  ·exact fun a' u K0 R hS hr ho h=>a2d a0c (.tmp 13) rfl (hr 6 _ 13 _ rfl rfl rfl ⟨⟨6,.data⟩,by simp,rfl,rfl⟩) (P4.pzz (hS.s (g1,72,r.c.toArray) (by simp))) (a2b _) (h u (Kept.refl _ _))
  ·exact fun a' u K0 R hS hr ho h=>a0o a0c (.tmp 3) rfl ((ho 3 (by decide)).trans rfl) (hS.s (g3,70,(uv (fam 5 Z0)).toArray) (by simp)) rfl (h u (Kept.refl _ _))
  ·exact fun a' u K0 R hS hr ho h=>a2c (.tmp 1) rfl ((ho 1 (by decide)).trans rfl) (fa3 g1) (h u (Kept.refl _ _))
  ·exact fun a' u K0 R hS hr ho h=>a2d a0c (.tmp 16) rfl (hr 9 _ 16 _ rfl rfl rfl ⟨⟨9,.data⟩,by simp,rfl,rfl⟩) (P4.pt (hS.s (g1,72,r.c.toArray) (by simp))) (a2b _) (h u (Kept.refl _ _))
  ·refine fun a' u K0 R hS hr ho h=>a0n rfl a2q (vs:=#[el Z0,el r.t]) ?_ (ct.out u) h
   have h0:=hr 8 (el Z0) 15 _ rfl rfl rfl ⟨⟨8,.data⟩,by simp,rfl,rfl⟩;have h1:=hr 10 (el r.t) 17 _ rfl rfl rfl ⟨⟨10,.data⟩,by simp,rfl,rfl⟩;simp [Act.eval]at h0 h1 ⊢;exact⟨h0,h1⟩
  ·refine fun a' u K0 R hS hr ho h=>?_
   have h0:=hr 3 (el NX) 10 _ rfl rfl rfl ⟨⟨3,.data⟩,by simp,rfl,rfl⟩;have h1:=hr 5 (el r.y) 12 _ rfl rfl rfl ⟨⟨5,.data⟩,by simp,rfl,rfl⟩;have h2:=hr 7 (el r.z) 14 _ rfl rfl rfl ⟨⟨7,.data⟩,by simp,rfl,rfl⟩;have h3:=hr 11 (el NT) 18 _ rfl rfl rfl ⟨⟨11,.data⟩,by simp,rfl,rfl⟩;exact b1t rfl h0 h1 h2 h3 (h u (Kept.refl _ _))
 intro u7 hS7;simp [a1f,List.range,List.range.loop,Act.put];refine a5k a0l (.tmp 2) (.tmp 19) rfl rfl rfl (hS7.s (g2,72,pz.c.toArray) (by simp)) pz.size (P4.mk NX r.y r.z NT).size (P4.mk NX r.y r.z NT).one ?_;simp [Act.put];have b7:=(hS7.s (g2,72,pz.c.toArray) (by simp)).a5i (P4.mk NX r.y r.z NT).c.toArray;have kk7:Kept [g2] u7 (u7.setRow g2 (P4.mk NX r.y r.z NT).c.toArray):=(Kept.refl [g2] u7).setRow (.inl (by simp)) _;have k7:=hS7.k.a0r kk7 hl2.out;clear kk7 hS7;go_wp2_with fail;exact a1m a0l rfl rfl b7 (P4.mk NX r.y r.z NT).size rfl ⟨rfl,k7⟩
end Go.Proofs.YtdbngnlpafcogaaGreat
namespace Go.Proofs.YtdbngnlpafcogaaGreat
open Go.RowKit Go.Mem Go.Txt
theorem c5t{a:Act}{o:Oper}{u:World}{t:TypeId}{cs:Array Value}(ho:o.op= .build t #[])(h:Tryz.prog.built t []=some cs):(execOp a.eval o).run Tryz.prog u= .ok (.value (.agg cs)) u:=by
 unfold execOp;simp only [ho,Sem.run_bind];rw [run_build u t (Array.map (fun x:Nat × Operand=>(x.fst,a.eval x.snd)) #[]) cs (by simpa using h)];simp
theorem a6v:∀n:Nat,leV (a0m n)=0
 | 0=>rfl
 | n + 1=>by
   show leV (0 :: List.replicate n 0)=0;rw [leV,show leV (List.replicate n 0)=0 from a6v n];rfl
theorem c1t(b:UInt8):∃l:List UInt8,l=b :: a0m 31∧l.length=32∧leV l=b.toNat∧Tryz.prog.built 22 [(0,.int .u8 (b.toNat:Int))]=some (bv l).toArray:=by
 refine⟨_,rfl,rfl,?_,by kernel_rfl⟩;rw [leV,a6v];rfl
theorem lit_le(b:UInt8):b :: a0m 31=le b.toNat 32:=by
 obtain⟨l,h1,h2,h3,_⟩:=c1t b;have:=b8p l;rw [h2,h3]at this;rw [←h1,this]
def adN(p:P4):Nat→P4
 | 0=>p
 | k + 1=>adQ (adN p k) (adN p k)
theorem c3o{p:P4}(h:p.Ok):∀k,(adN p k).Ok
 | 0=>h
 | k + 1=>adQ_ok (c3o h k) (c3o h k)
def smB(p:P4):Bool:=le (e4u (adN p 3)) 32 == le 1 32
set_option maxHeartbeats 1600000 in
theorem d0u{p:P4}(hp:p.Ok)(w:World):Calls Tryz.prog 49 #[p.v] w fun e w'=>e= .returned (.bool (smB p))∧Kept [] w w':=by
 have ca:=hjd (fun k=>add_c (c3o hp k) (c3o hp k));have ch:=hjd (d6f (c3o hp 3));obtain⟨l1,h1,h2,_,u1⟩:=c1t 1;replace u1:=hjd (show Tryz.prog.built 22 [(0,.int .u8 1)]=some (bv l1).toArray from u1);have q:=a3r a2u Tryz.underlying5 (by kernel_rfl) (le (e4u (adN p 3)) 32) l1 (a0x _ _) h2;have hb:(le (e4u (adN p 3)) 32 == l1)=smB p:=by rw [h1,lit_le];rfl
 rw [hb]at q;clear hb h1 h2 hp;generalize smB p=b at *;generalize hX:e4u (adN p 3)=X at *;clear hX;go_enter Tryz.func49,Tryz.ntmps49;go_wp2_with (first
  | ((with_reducible refine a0q (o:=⟨some 1,_,_,_,_,_⟩) (v:=p.v) rfl (.tmp 0) rfl rfl ?_);intro g1 w1 m1))
 go_loopg [3] 3 (fun f i wk=>∃k:Nat,k≤3∧f + k=3∧i= .int .i64 k∧Blk wk g1 72 (adN p k).c.toArray∧Kept [g1] w1 wk)
 case atStart=>exact⟨0,Nat.zero_le _,rfl,rfl,m1.blk,Kept.refl _ _⟩
 case round=>
  obtain⟨k,hk,hf,rfl,hb,hkw⟩:=hrel;by_cases hlt:k < 3
  ·go_wp2_with (first
    | (with_reducible refine a0d (o:=⟨some 5,_,_,_,_,_⟩) a0l rfl (.tmp 1) rfl rfl hb (P4.size _) ?_)
    | (with_reducible refine a0d (o:=⟨some 6,_,_,_,_,_⟩) a0l rfl (.tmp 1) rfl rfl hb (P4.size _) ?_)
    | (go_at_call 119;(with_reducible refine(ca.out k _).mono ?_);rintro e y ⟨rfl,kk⟩;have hb2:=hjd (hb.kept kk (by simp)))
    | ((with_reducible refine a0a (o:=⟨none,.store 72 (.tmp 1) (.tmp 7),_,_,_,_⟩) a0l rfl (.tmp 1) (.tmp 7) rfl rfl rfl hb2.out (P4.size _) (P4.size _) (P4.one _) ?_);intro w4 b4 k4))
   have K4:=hjd ((hkw.a0g kk).trans' k4);go_wp2_with fail;go_roundg (3 - (k + 1));case measure=>omega
   case rel=>exact⟨k + 1,by omega,by omega,by go_num,b4,K4.out⟩
  ·obtain rfl:k=3:=by omega
   go_wp2_with (first
    | (with_reducible refine a0d (o:=⟨some 9,_,_,_,_,_⟩) a0l rfl (.tmp 1) rfl rfl hb (P4.size _) ?_)
    | (go_at_call 33;(with_reducible refine(ch.out _).mono ?_);rintro e y ⟨rfl,kk⟩)
    | (refine a3x (o:=⟨some 11,_,_,_,_,_⟩) rfl 0 (.const (.int .u8 1)) rfl rfl u1.out ?_))
   go_ret;exact⟨rfl,(m1.kept.a0r hkw m1.le).a0g kk⟩
def dgt(X i:Nat):Nat:=X / 2 ^ (4 * i) % 16
theorem d5p(X i:Nat):dgt X i < 16:=Nat.mod_lt _ (by decide)
theorem and15:∀n:Nat,n < 256→bits .and .u8 ((n:Nat):Int) 15=((n % 16:Nat):Int):=by decide +kernel
def byt(X i:Nat):Nat:=X / 2 ^ (8 * i) % 256
theorem c6t(X i:Nat):byt X i < 256:=Nat.mod_lt _ (by decide)
theorem e7a(X i:Nat):(UInt8.ofNat (byt X i)).toNat=byt X i:=by
 have:=c6t X i;simp;omega
theorem Blk.getb{w:World}{g:Nat}{bt:TypeId}{X i:Nat}(h:Blk w g bt (bv (le X 32)).toArray)(hi:i < 32):w.cell? ⟨g,i,none⟩=some (.int .u8 ((byt X i:Nat):Int)):=by
 have:=h.bget i (by rw [a0x];exact hi);rw [b3z _ _ _ hi]at this;have e:=e7a X i;unfold byt at e;rw [e]at this;exact this
theorem e6t(X i:Nat):byt X (i / 2) / 2 ^ (4 * (i % 2)) % 16=dgt X i:=by
 unfold byt dgt;rcases Nat.mod_two_eq_zero_or_one i with h | h
 ·rw [h,Nat.mul_zero,Nat.pow_zero,Nat.div_one,show 4 * i=8 * (i / 2)from by omega];omega
 ·rw [h,Nat.mul_one,show 4 * i=8 * (i / 2) + 4 from by omega,Nat.pow_add,←Nat.div_div_eq_div_mul];omega
abbrev DgC(X i:Nat):Prop:=∀W,Calls Tryz.prog 96 #[ab (le X 32),.int .i64 (i:Int)] W fun e w'=>e= .returned (.int .u8 ((dgt X i:Nat):Int))∧Kept [] W w'
set_option maxHeartbeats 1600000 in
theorem b5g(X i:Nat)(hi:i < 64):DgC X i:=by
 intro w;have hd:=e6t X i;have hb:=c6t X (i / 2);have hi2:i / 2 < 32:=by omega
 have hd2:bits .and .u8 (((byt X (i / 2):Nat):Int) / 2 ^ (4 * (i % 2))) 15=((dgt X i:Nat):Int):=by
  have:=and15 (byt X (i / 2) / 2 ^ (4 * (i % 2))) (Nat.lt_of_le_of_lt (Nat.div_le_self _ _) hb);rw [hd]at this;rw [←this]
  push_cast
  rfl
 replace hd2:=hjd hd2;clear hd;have hc:∀(u:World) (g:Nat) (bt:TypeId),Blk u g bt (bv (le X 32)).toArray→u.cell? ⟨g,i / 2,none⟩=some (.int .u8 ((byt X (i / 2):Nat):Int)):=fun u g bt h=>Blk.getb h hi2
 replace hc:=hjd hc;generalize byt X (i / 2)=B at *;generalize dgt X i=D at *;go_enter Tryz.func96,Tryz.ntmps96;go_wp2_with (first
  | ((with_reducible refine a0q (o:=⟨some 2,_,_,_,_,_⟩) (v:=ab (le X 32)) rfl (.tmp 0) rfl rfl ?_);intro g1 w1 m1;have q1:=hc.out _ _ _ m1.blk))
 go_ret;exact⟨by rw [hd2.out];rfl,m1.kept⟩
def a2o(p:P4)(K:Nat→Nat):Nat→P4
 | 0=>rtQ pz
 | 1=>rtQ p
 | n + 2=>plQ (a2o p K (n + 1)) (rtQ p) K
theorem b2s{p:P4}{K:Nat→Nat}(hp:p.Ok)(hK:Lim K):∀n,(a2o p K n).Ok
 | 0=>a6m d3a
 | 1=>a6m hp
 | n + 2=>b4f (b2s hp hK (n + 1)) (a6m hp) hK
def a3m(f:Nat→P4):List Value:=rws 16 fun i=>(f i).c
theorem P4.len(p:P4):p.c.length=20:=c4u _ _ _ _
theorem P4.onel(p:P4):∀u∈p.c,u.oneCell'=true:=d6i _ _ _ _
theorem c1a:(Tryz.prog.info? 146).map (·.zero)=some (some (.agg (a3m fun _=>pz).toArray)):=by kernel_rfl
theorem d7d:EntT Tryz.prog 146 72 16 20:=⟨Tryz.underlying146,by kernel_rfl,by kernel_rfl,by decide⟩
theorem c9x:RowT Tryz.prog 146 320:=⟨⟨_,Tryz.underlying146,rfl⟩,by kernel_rfl⟩
theorem a5v(f:Nat→P4):(a3m f).length=320:=b1d (fun i=>(f i).len) 16
theorem b1o(f:Nat→P4):(a3m f).toArray.all (·.oneCell')=true:=d1n (fun i=>(f i).onel) 16
def a7r(f:Nat→P4)(k i:Nat):P4:=if i < k then f i else pz
abbrev RwC(p:P4)(K:Nat→Nat):Prop:=∀W,Calls Tryz.prog 93 #[p.v,el K] W fun e w'=>e= .returned (.agg (a3m (a2o p K)).toArray)∧Kept [] W w'
theorem b6g(f:Nat→P4)(k:Nat):(rws 16 fun j=>if j=k then(f k).c else(a7r f k j).c)=a3m (a7r f (k + 1)):=b3j 16 fun j _=>by
 unfold a7r;split
 ·rename_i h;subst h;rw [if_pos (by omega)]
 ·by_cases h:j < k
  ·rw [if_pos h,if_pos (by omega)]
  ·rw [if_neg h,if_neg (by omega)]
set_option maxHeartbeats 1600000 in
theorem b9m{p:P4}{K:Nat→Nat}(hp:p.Ok)(hK:Lim K):RwC p K:=by
 intro w;have cz:=hjd (b0t d3a);have cp:=hjd (b0t hp);have cs:=hjd (fun n=>show e5g (a2o p K (n + 1)) (rtQ p) K (a2o p K (n + 2))from b3p (b2s hp hK (n + 1)) (a6m hp) hK);have e0:a2o p K 0=rtQ pz:=rfl;have e1:a2o p K 1=rtQ p:=rfl;rw [←e0]at cz;rw [←e1]at cp cs;clear e0 e1 hp hK
 have cs:=hjd (show∀k,2≤k→e5g (a2o p K (k - 1)) (a2o p K 1) K (a2o p K k)from fun k hk=>by
  obtain⟨n,rfl⟩:∃n,k=n + 2:=⟨k - 2,by omega⟩;exact cs.out n)
 generalize a2o p K=f at *;have u0:=hjd a7b;go_enter Tryz.func93,Tryz.ntmps93;go_wp2_with (first
  | ((with_reducible refine a0q (o:=⟨some 2,_,_,_,_,_⟩) (v:=p.v) rfl (.tmp 0) rfl rfl ?_);intro g2 w2 m2)
  | ((with_reducible refine a0q (o:=⟨some 3,_,_,_,_,_⟩) (v:=el K) rfl (.tmp 1) rfl rfl ?_);intro g3 w3 m3)
  | ((with_reducible refine a0h (o:=⟨some 4,_,_,_,_,_⟩) rfl rfl c1a ?_);intro g4 w4 m4)
  | ((with_reducible refine a0h (o:=⟨some 5,_,_,_,_,_⟩) rfl rfl c1a ?_);intro g5 w5 m5))
 have B2:=hjd (show Blk w5 g2 72 p.c.toArray from((m2.blk.kept m3.kept (by simp)).kept m4.kept (by simp)).kept m5.kept (by simp));have B3:=hjd (show Blk w5 g3 70 (uv (fam 5 K)).toArray from(m3.blk.kept m4.kept (by simp)).kept m5.kept (by simp));have B4:=hjd (show Blk w5 g4 146 (a3m fun _=>pz).toArray from m4.blk.kept m5.kept (by simp));have B5:=hjd (show Blk w5 g5 146 (rws 16 fun i=>(a7r f 0 i).c).toArray from m5.blk);have D:=hjd (show g2≠g5∧g3≠g5∧g4≠g5∧w.heap.size≤g4∧w.heap.size≤g5 from⟨m5.ne ((m2.blk.kept m3.kept (by simp)).kept m4.kept (by simp)).lt,m5.ne (m3.blk.kept m4.kept (by simp)).lt,m5.ne m4.blk.lt,Nat.le_trans (m2.kept.a0g m3.kept).size m4.le,Nat.le_trans ((m2.kept.a0g m3.kept).a0g m4.kept).size m5.le⟩);have K5:=hjd (((m2.kept.a0g m3.kept).a0g m4.kept).a0g m5.kept);clear m2 m3 m4 m5;refine Txt.a1k [0,2] (fun u=>Blk u g2 72 p.c.toArray) [[_],[_],[_,_],[_,_],[_,_],[]] (by kernel_rfl) (by kernel_rfl) rfl B2.out (Txt.a0e ?_);go_wp2_with (with_reducible refine a0y (o:=⟨some 7,_,_,_,_,_⟩) rfl rfl u0.out ?_);refine⟨rfl,B2.out,Txt.a0e ?_⟩;go_wp2_with (go_at_call 97;(with_reducible refine(cz.out _).mono ?_);rintro e y1 ⟨rfl,kk1⟩);have kk1:=hjd kk1.a1r;have B2:=hjd (B2.out.kept kk1.out (by simp));refine⟨rfl,B2.out,Txt.a0e ?_⟩;go_wp2_with (first
  | (with_reducible refine a0d (o:=⟨some 9,_,_,_,_,_⟩) a0l rfl (.tmp 2) rfl rfl B2.out p.size ?_)
  | (go_at_call 97;(with_reducible refine(cp.out _).mono ?_);rintro e y2 ⟨rfl,kk2⟩))
 have B2:=hjd (B2.out.kept kk2 (by simp));have B5:=hjd ((B5.out.kept kk1.out (by simp)).kept kk2 (by simp));refine⟨rfl,B2.out,Txt.a0e ?_⟩;go_wp2_with (first
  | (with_reducible refine c9i (o:=⟨some 11,_,_,_,_,_⟩) (i:=0) d7d rfl (.tmp 5) (.const (.int .i64 0)) rfl rfl rfl (by decide) ?_)
  | ((with_reducible refine a9t (o:=⟨none,.store 72 (.tmp 11) (.tmp 8),_,_,_,_⟩) (q:=(f 0).c) (i:=0) a0l rfl (.tmp 11) (.tmp 8) rfl rfl rfl B5.out (fun i=>P4.len _) (by decide) (P4.len _) (P4.one _) ?_);intro w6 b6 k6))
 have e0:=b6g f 0;rw [e0]at b6;clear e0;have B2:=hjd (B2.out.kept k6 (by simpa using D.out.1));refine⟨rfl,B2.out,Txt.a0e ?_⟩;go_wp2_with (first
  | (with_reducible refine c9i (o:=⟨some 12,_,_,_,_,_⟩) (i:=1) d7d rfl (.tmp 5) (.const (.int .i64 1)) rfl rfl rfl (by decide) ?_)
  | ((with_reducible refine a9t (o:=⟨none,.store 72 (.tmp 12) (.tmp 10),_,_,_,_⟩) (q:=(f 1).c) (i:=1) a0l rfl (.tmp 12) (.tmp 10) rfl rfl rfl b6 (fun i=>P4.len _) (by decide) (P4.len _) (P4.one _) ?_);intro w7 b7 k7))
 have e1:=b6g f 1;rw [e1]at b7;clear e1;have B2:=hjd (B2.out.kept k7 (by simpa using D.out.1));refine⟨rfl,B2.out,Txt.a0e ?_⟩;refine⟨rfl,B2.out,Txt.a0w ⟨⟨by kernel_rfl,?_⟩,?_⟩⟩
 ·intro j hj o ho hw;have hj2:j=0∨j=2:=by simpa using hj
  rcases hj2 with rfl | rfl <;> cases ho
  ·exact⟨7,rfl,fun u hu=>c5t rfl u0.out⟩
  ·exact⟨9,rfl,fun u hu=>a1c a0l (.tmp 2) rfl rfl hu p.size⟩
 have K7:=hjd ((((K5.out.a0g kk1.out).a0g kk2).a0r k6 D.out.2.2.2.2).a0r k7 D.out.2.2.2.2);have KB:=hjd (show∀g t cs,Blk w5 g t cs→g≠g5→Blk w7 g t cs from fun g t cs h hg=>(((h.kept kk1.out (by simp)).kept kk2 (by simp)).kept k6 (by simpa using hg)).kept k7 (by simpa using hg));have B3:=hjd (KB.out _ _ _ B3.out D.out.2.1);have B4:=hjd (KB.out _ _ _ B4.out D.out.2.2.1);clear KB B2 B5 kk1 kk2 k6 k7 b6 K5;go_wp2_with fail;go_loopg [6] 14 (fun fu i wk=>∃k:Nat,2≤k∧k≤16∧fu + k=16∧i= .int .i64 k∧Blk wk g5 146 (a3m (a7r f k)).toArray∧Kept [g5] w7 wk);case atStart=>exact⟨2,Nat.le_refl _,by omega,rfl,rfl,b7,Kept.refl _ _⟩
 case round=>
  obtain⟨k,hk2,hk,hf,rfl,hb,hkw⟩:=hrel;by_cases hlt:k < 16
  ·have H3:=hjd (B3.out.kept hkw (by simpa using D.out.2.1));have hb1:=hb.row (fun i=>P4.len _) (show k - 1 < 16 by omega);have hb2:=hb.row (fun i=>P4.len _) (show 1 < 16 by omega);have f1:a7r f k (k - 1)=f (k - 1):=if_pos (by omega);have f2:a7r f k 1=f 1:=if_pos (by omega);rw [f1,Nat.mul_comm]at hb1;rw [f2]at hb2;replace hb1:=hjd hb1;replace hb2:=hjd hb2;replace hb:=hjd hb;have cs:=hjd (cs.out k hk2);have KW:=hjd hkw;clear hkw;have hS0:=hjd (show(∃f':Nat→P4,Blk _ g5 146 (a3m f').toArray∧f' (k - 1)=f (k - 1)∧f' 1=f 1)∧Blk _ g3 70 (uv (fam 5 K)).toArray from⟨⟨_,hb.out,f1,f2⟩,H3.out⟩);clear f1 f2;go_wp2_with fail;refine Txt.a1k [4,6,7] (fun u=>(∃f':Nat→P4,Blk u g5 146 (a3m f').toArray∧f' (k - 1)=f (k - 1)∧f' 1=f 1)∧Blk u g3 70 (uv (fam 5 K)).toArray) [[_,_,_,_,_,_,_,_,_],[_,_],[]] (by kernel_rfl) (by kernel_rfl) rfl hS0.out (Txt.a0e ?_);go_wp2_with (first
    | (refine a1i (o:=⟨some 21,_,_,_,_,_⟩) a0l rfl (.tmp 20) rfl rfl hb1.out (P4.len _) ?_)
    | (refine a1i (o:=⟨some 23,_,_,_,_,_⟩) a0l rfl (.tmp 22) rfl rfl hb2.out (P4.len _) ?_)
    | (refine a0d (o:=⟨some 24,_,_,_,_,_⟩) a0c rfl (.tmp 3) rfl rfl H3.out rfl ?_)
    | (go_at_call 95;(with_reducible refine(cs.out _).mono ?_);rintro e y1 ⟨rfl,kk⟩))
   have KW:=hjd (KW.out.a0g kk.a1r);have hb:=hjd (hb.out.kept kk.a1r (by simp));have H3:=hjd (H3.out.kept kk.a1r (by simp));have f1:a7r f k (k - 1)=f (k - 1):=if_pos (by omega);have f2:a7r f k 1=f 1:=if_pos (by omega);refine⟨rfl,⟨⟨_,hb.out,f1,f2⟩,H3.out⟩,Txt.a0e ?_⟩;clear f1 f2;go_wp2_with (first
    | ((refine a9t (o:=⟨none,.store 72 (.tmp 26) (.tmp 25),_,_,_,_⟩) (q:=(f k).c) (i:=k) a0l rfl (.tmp 26) (.tmp 25) rfl (by simp [Act.eval,Nat.mul_comm]) rfl hb.out (fun i=>P4.len _) hlt (P4.len _) (P4.one _) ?_);intro w8 b8 k8))
   have e1:=b6g f k;rw [e1]at b8;clear e1;have KW:=hjd (KW.out.trans' k8);have H3:=hjd (H3.out.kept k8 (by simpa using D.out.2.1));have f1:a7r f (k + 1) (k - 1)=f (k - 1):=if_pos (by omega);have f2:a7r f (k + 1) 1=f 1:=if_pos (by omega);refine⟨rfl,⟨⟨_,b8,f1,f2⟩,H3.out⟩,Txt.a0e ?_⟩;refine⟨rfl,⟨⟨_,b8,f1,f2⟩,H3.out⟩,Txt.a0w ⟨⟨by kernel_rfl,?_⟩,?_⟩⟩
   ·intro j hj o ho hw;have hj2:j=4∨j=6∨j=7:=by simpa using hj
    rcases hj2 with rfl | rfl | rfl <;> cases ho
    ·refine⟨21,rfl,fun u hu=>?_⟩;obtain⟨⟨f',h1,h2,h3⟩,h4⟩:=hu;have:=h1.row (fun i=>P4.len _) (show k - 1 < 16 by omega);rw [h2,Nat.mul_comm]at this;exact a5n a0l (.tmp 20) rfl rfl this (P4.len _)
    ·refine⟨23,rfl,fun u hu=>?_⟩;obtain⟨⟨f',h1,h2,h3⟩,h4⟩:=hu;have:=h1.row (fun i=>P4.len _) (show 1 < 16 by omega);rw [h3]at this;exact a5n a0l (.tmp 22) rfl rfl this (P4.len _)
    ·exact⟨24,rfl,fun u hu=>a1c a0c (.tmp 3) rfl rfl hu.2 rfl⟩
   clear f1 f2 hS0 H3;go_wp2_with fail;go_roundg (16 - (k + 1));case measure=>omega
   case rel=>exact⟨k + 1,by omega,by omega,by omega,by go_num,b8,KW.out⟩
  ·obtain rfl:k=16:=by omega
   have e16:a3m (a7r f 16)=a3m f:=b3j 16 fun i hi=>by unfold a7r;rw [if_pos hi]
   rw [e16]at hb;have B4:=hjd (B4.out.kept hkw (by simpa using D.out.2.2.1));have KW:=hjd (K7.out.a0r hkw D.out.2.2.2.2);clear hkw e16 K7;have s1:=hjd (show(a3m f).toArray.size=320 by rw [List.size_toArray,a5v]);have s2:=hjd (show(a3m fun _=>pz).toArray.size=320 by rw [List.size_toArray,a5v]);have o1:=hjd (b1o f);go_wp2_with (first
    | (refine a0d (o:=⟨some 27,_,_,_,_,_⟩) c9x rfl (.tmp 5) rfl rfl hb s1.out ?_)
    | ((refine a0a (o:=⟨none,.store 146 (.tmp 4) (.tmp 27),_,_,_,_⟩) c9x rfl (.tmp 4) (.tmp 27) rfl rfl rfl B4.out s2.out s1.out o1.out ?_);intro w9 b9 k9))
   exact a1m c9x rfl rfl b9 s1.out rfl ⟨rfl,KW.out.a0r k9 D.out.2.2.2.1⟩
end Go.Proofs.YtdbngnlpafcogaaGreat
namespace Go.Proofs.YtdbngnlpafcogaaGreat
open Go.RowKit Go.Mem Go.Txt
section
variable {P:Program} {w:World} {o:Oper} {a:Act} {C:Act→World→Prop} {R:Exit→Act→World→Prop}
theorem wp_move(x:Operand)(ho:o.op= .move x){v:Value}(hx:a.eval x=v)(h:C (a.put o.dst v) w):o.wp P a w C R:=by
 unfold Oper.wp execOp;simp only [ho,hx,Sem.run_pure];exact h
end
theorem a9j(xs:Array Value)(w:World):(callFunc 96 xs).run Tryz.prog w= .ok (.enter 96 xs) w:=enters_of (c:=_) Tryz.func96 (by kernel_rfl) rfl xs w
theorem a6t(xs:Array Value)(w:World):(callFunc 31 xs).run Tryz.prog w= .ok (.enter 31 xs) w:=enters_of (c:=_) Tryz.func31 (by kernel_rfl) rfl xs w
theorem b5w(xs:Array Value)(w:World):(callFunc 93 xs).run Tryz.prog w= .ok (.enter 93 xs) w:=enters_of (c:=_) Tryz.func93 (by kernel_rfl) rfl xs w
def dbN(r:P4):Nat→P4
 | 0=>r
 | k + 1=>dbQ (dbN r k)
theorem b3t{r:P4}(h:r.Ok):∀k,(dbN r k).Ok
 | 0=>h
 | k + 1=>c7t (b3t h k)
def muA(f:Nat→P4)(X:Nat):Nat→P4
 | 0=>f 0
 | k + 1=>plQ (dbN (muA f X k) 4) (f (dgt X (63 - k))) kK
theorem d2v{f:Nat→P4}(h:∀i,(f i).Ok)(X:Nat):∀k,(muA f X k).Ok
 | 0=>h 0
 | k + 1=>b4f (b3t (d2v h X k) 4) (h _) a4y
theorem d9f(f:Nat→P4)(X m:Nat)(h:0 < m)(h2:m≤64):muA f X (64 - (m - 1))=plQ (dbN (muA f X (64 - m)) 4) (f (dgt X (m - 1))) kK:=by
 rw [show 64 - (m - 1)=(64 - m) + 1 from by omega,muA,show 63 - (64 - m)=m - 1 from by omega]
structure MuM (w0:World) (g3 g4 g5 g6:Nat) (X:Nat) (f:Nat→P4) (u:World):Prop where
 n:Blk u g3 22 (bv (le X 32)).toArray
 r:Blk u g4 72 pz.c.toArray
 k:Blk u g5 70 (uv (fam 5 kK)).toArray
 f:Blk u g6 146 (a3m f).toArray
 w:Kept [] w0 u
theorem MuM.kept{w0:World}{g3 g4 g5 g6:Nat}{X:Nat}{f:Nat→P4}{u u':World}(h:MuM w0 g3 g4 g5 g6 X f u)(hk:Kept [] u u'):MuM w0 g3 g4 g5 g6 X f u':=⟨h.n.kept hk (by simp),h.r.kept hk (by simp),h.k.kept hk (by simp),h.f.kept hk (by simp),h.w.a0g hk⟩
theorem MuM.a8u{w0:World}{g g3 g4 g5 g6:Nat}{X:Nat}{f:Nat→P4}{u u':World}(h:MuM w0 g3 g4 g5 g6 X f u)(hk:Kept [g] u u')(d:g3≠g∧g4≠g∧g5≠g∧g6≠g∧w0.heap.size≤g):MuM w0 g3 g4 g5 g6 X f u':=
 ⟨h.n.kept hk (by simpa using d.1),h.r.kept hk (by simpa using d.2.1),h.k.kept hk (by simpa using d.2.2.1),h.f.kept hk (by simpa using d.2.2.2.1),h.w.a0r hk d.2.2.2.2⟩
abbrev MuC(p:P4)(X:Nat)(r:P4):Prop:=∀W,Calls Tryz.prog 32 #[p.v,ab (le X 32)] W fun e w'=>e= .returned r.v∧Kept [] W w'
set_option maxHeartbeats 3200000 in
theorem c4k{p:P4}(hp:p.Ok)(X:Nat)(hne:p.same baQ=false):MuC p X (muA (a2o p kK) X 64):=by
 intro w;have hf:=b2s hp a4y;have cb:=hjd b5c;have cd:=hjd b4m;have cr:=hjd (show∀W,Calls Tryz.prog 93 #[p.v,el kK] W fun e w'=>e= .returned (.agg (a3m (a2o p kK)).toArray)∧Kept [] W w' from b9m hp a4y);have q:=c0u hp c7n;rw [hne]at q;have cg:=hjd (b5g X);have cm:=hjd (fun k j=>e5z (b3t (d2v hf X k) j))
 have cp:=hjd (show∀m,0 < m→m≤64→e5g (dbN (muA (a2o p kK) X (64 - m)) 4) (a2o p kK (dgt X (m - 1))) kK (muA (a2o p kK) X (64 - (m - 1)))from fun m h h2=>by
  rw [d9f _ X m h h2];exact b3p (b3t (d2v hf X _) 4) (hf _) a4y)
 have e0:∀f:Nat→P4,muA f X 0=f 0:=fun _=>rfl
 have e1:∀k:Nat,dbN (muA (a2o p kK) X k) 0=muA (a2o p kK) X k:=fun _=>rfl
 have e2:∀k j:Nat,dbN (muA (a2o p kK) X k) (j + 1)=dbQ (dbN (muA (a2o p kK) X k) j):=fun _ _=>rfl
 replace e0:=hjd e0;replace e1:=hjd e1;replace e2:=hjd e2;clear hf hp hne;generalize a2o p kK=f at *;generalize baQ=bq at *;go_enter Tryz.func32,Tryz.ntmps32;go_wp2_with (first
  | ((with_reducible refine a0q (o:=⟨some 2,_,_,_,_,_⟩) (v:=p.v) rfl (.tmp 0) rfl rfl ?_);intro g2 w2 m2)
  | ((with_reducible refine a0q (o:=⟨some 3,_,_,_,_,_⟩) (v:=ab (le X 32)) rfl (.tmp 1) rfl rfl ?_);intro g3 w3 m3)
  | ((with_reducible refine a0h (o:=⟨some 4,_,_,_,_,_⟩) rfl rfl a4e ?_);intro g4 w4 m4))
 have t0:=((((Pm.none w).kept m2.kept).cons m2.blk).kept m3.kept |>.cons m3.blk).kept m4.kept;have t:=hjd (show Pm w [(g4,72,pz.c.toArray),(g3,22,(bv (le X 32)).toArray),(g2,72,p.c.toArray)] w4 from t0.cons m4.blk);have hl4:=hjd (Nat.le_trans (m2.kept.a0g m3.kept).size m4.le);clear m2 m3 m4 t0;refine a6n (by kernel_rfl) [p.v,bq.v]
  (Pm w [(g4,72,pz.c.toArray),(g3,22,(bv (le X 32)).toArray),(g2,72,p.c.toArray)]) (by kernel_rfl) rfl rfl (by kernel_rfl) t.out.drew (fun u u' h hk=>h.kept hk) ?_ ?_
 ·refine⟨?_,?_,trivial⟩
  ·exact fun a' u K0 R hS hr ho h=>a0o a0l (.tmp 2) rfl ((ho 2 (by decide)).trans rfl) (hS.s (g2,72,p.c.toArray) (by simp)) p.size (h u (Kept.refl _ _))
  ·exact fun a' u K0 R hS hr ho h=>a0n rfl a6t (vs:=#[]) (by simp) (cb.out u) h
 intro u7 hS7;simp [a1f,List.range,List.range.loop,Act.put];have t:=hjd hS7;clear hS7;go_wp2_with (first
  | (go_at_call 92;(with_reducible refine(cd.out _).mono ?_);rintro e y1 ⟨rfl,kk⟩;replace t:=hjd (t.out.kept kk);clear kk)
  | ((with_reducible refine a0h (o:=⟨some 5,_,_,_,_,_⟩) rfl rfl a1b ?_);intro g5 w5 m5)
  | ((with_reducible refine a0a (o:=⟨none,.store 70 (.tmp 5) (.tmp 14),_,_,_,_⟩) a0c rfl (.tmp 5) (.tmp 14) rfl rfl rfl m5.blk rfl rfl (a0u _) ?_);intro v6 b6 k6;replace t:=hjd (t.out.put m5 b6 k6);clear m5 b6 k6)
  | (with_reducible refine a0d (o:=⟨some 15,_,_,_,_,_⟩) a0l rfl (.tmp 2) rfl rfl (t.out.s (g2,72,p.c.toArray) (by simp)) p.size ?_)
  | (with_reducible refine a0d (o:=⟨some 16,_,_,_,_,_⟩) a0c rfl (.tmp 5) rfl rfl (t.out.s (g5,70,(uv (fam 5 kK)).toArray) (by simp)) rfl ?_)
  | (go_at_call 93;(with_reducible refine(cr.out _).mono ?_);rintro e y1 ⟨rfl,kk⟩;replace t:=hjd (t.out.kept kk);clear kk)
  | ((with_reducible refine a0h (o:=⟨some 6,_,_,_,_,_⟩) rfl rfl c1a ?_);intro g6 w6 m6)
  | ((refine a0a (o:=⟨none,.store 146 (.tmp 6) (.tmp 17),_,_,_,_⟩) c9x rfl (.tmp 6) (.tmp 17) rfl rfl rfl m6.blk (by rw [show(Value.agg (a3m fun _=>pz).toArray).cells=(a3m fun _=>pz).toArray from rfl,List.size_toArray,a5v]) (by rw [List.size_toArray,a5v]) (b1o f) ?_);intro v7 b7 k7;replace t:=hjd (t.out.put m6 b7 k7);clear m6 b7 k7)
  | (refine a1i (o:=⟨some 19,_,_,_,_,_⟩) a0l rfl (.tmp 18) rfl rfl ((t.out.s (g6,146,(a3m f).toArray) (by simp)).row (fun i=>P4.len _) (show 0 < 16 by omega)) (P4.len _) ?_)
  | ((with_reducible refine a0h (o:=⟨some 7,_,_,_,_,_⟩) rfl rfl a4e ?_);intro g7 w7 m7;have hl7:=hjd (Nat.le_trans t.out.k.size m7.le);have hn7:=hjd (fun p hp=>m7.ne (t.out.s p hp).lt);replace t:=hjd (t.out.kept m7.kept))
  | ((refine a0a (o:=⟨none,.store 72 (.tmp 7) (.tmp 19),_,_,_,_⟩) a0l rfl (.tmp 7) (.tmp 19) rfl rfl rfl m7.blk pz.size (P4.size _) (P4.one _) ?_);intro v8 b8 k8))
 have D:=hjd (show g3≠g7∧g4≠g7∧g5≠g7∧g6≠g7∧w.heap.size≤g7 from⟨hn7.out (g3,22,(bv (le X 32)).toArray) (by simp),hn7.out (g4,72,pz.c.toArray) (by simp),hn7.out (g5,70,(uv (fam 5 kK)).toArray) (by simp),hn7.out (g6,146,(a3m f).toArray) (by simp),hl7.out⟩);have M:=hjd (MuM.a8u (show MuM w g3 g4 g5 g6 X f w7 from⟨t.out.s (g3,22,(bv (le X 32)).toArray) (by simp),t.out.s (g4,72,pz.c.toArray) (by simp),t.out.s (g5,70,(uv (fam 5 kK)).toArray) (by simp),t.out.s (g6,146,(a3m f).toArray) (by simp),t.out.k⟩) k8 D.out);clear t hn7 hl7 k8 m7;replace b8:=hjd b8;go_loopg [8] 64 (fun fu i wk=>∃m:Nat,fu=m∧m≤64∧i= .int .i64 ((m:Int) - 1)∧Blk wk g7 72 (muA f X (64 - m)).c.toArray∧MuM w g3 g4 g5 g6 X f wk);case atStart=>exact⟨64,rfl,Nat.le_refl _,by go_num,by rw [Nat.sub_self,e0.out];exact b8.out,M.out⟩
 case round=>
  obtain⟨m,hf3,hm,rfl,hb,hM⟩:=hrel;have H:=hjd hb;have HM:=hjd hM;clear hb hM M b8;by_cases hm0:0 < m
  ·have hi0:(0:Int)≤(m:Int) - 1:=by omega
   have hi1:(1:Int)≤(m:Int):=by omega
   have cp0:=cp.out m hm0 hm;obtain⟨r2,hr2⟩:∃r2,r2=muA f X (64 - (m - 1)):=⟨_,rfl⟩;rw [←hr2]at cp0;replace hr2:=hjd hr2;have cp:=hjd cp0;clear cp0;have cm:=hjd (cm.out (64 - m));have e1:=hjd (e1.out (64 - m));have e2:=hjd (e2.out (64 - m));generalize muA f X (64 - m)=r at *;go_wp2_with fail;go_loopg [24] 4 (fun fu i wk=>∃j:Nat,j≤4∧fu + j=4∧i= .int .i64 (j:Int)∧Blk wk g7 72 (dbN r j).c.toArray∧MuM w g3 g4 g5 g6 X f wk);case atStart=>exact⟨0,Nat.zero_le _,rfl,rfl,by rw [e1.out];exact H.out,HM.out⟩
   case round=>
    obtain⟨j,hj,hf4,rfl,hb,hM⟩:=hrel;have H:=hjd hb;have HM:=hjd hM;clear hb hM;by_cases hlt:j < 4
    ·have cm:=hjd (cm.out j);rw [←e2.out]at cm;go_wp2_with (first
      | (with_reducible refine a0d (o:=⟨some 26,_,_,_,_,_⟩) a0l rfl (.tmp 7) rfl rfl H.out (P4.size _) ?_)
      | (go_at_call 94;(with_reducible refine(cm.out _).mono ?_);rintro e y1 ⟨rfl,kk⟩;have H1:=hjd (H.out.kept kk (by simp)))
      | ((with_reducible refine a0a (o:=⟨none,.store 72 (.tmp 7) (.tmp 27),_,_,_,_⟩) a0l rfl (.tmp 7) (.tmp 27) rfl rfl rfl H1.out (P4.size _) (P4.size _) (P4.one _) ?_);intro v9 b9 k9))
     have HM:=hjd (MuM.a8u (HM.out.kept kk) k9 D.out);clear kk k9 H1;go_roundg (4 - (j + 1));case measure=>omega
     case rel=>exact⟨j + 1,by omega,by omega,by go_num,b9,HM.out⟩
    ·obtain rfl:j=4:=by omega
     have hm1:((m - 1:Nat):Int)=(m:Int) - 1:=by omega
     have cg:=hjd (show∀W,Calls Tryz.prog 96 #[ab (le X 32),.int .i64 ((m:Int) - 1)] W fun e w'=>e= .returned (.int .u8 ((dgt X (m - 1):Nat):Int))∧Kept [] W w' from by rw [←hm1];exact cg.out (m - 1) (by omega));have hd:=d5p X (m - 1);generalize dbN r 4=s at *;generalize dgt X (m - 1)=d at *;clear hm1 e1 e2 cm;go_wp2_with fail;have hS0:=hjd (And.intro H.out.drew (HM.out.kept (Kept.refl [] _).drew));refine a6n (by kernel_rfl) [s.v,ab (le X 32),.int .i64 ((m:Int) - 1),.int .u8 ((d:Nat):Int),.pointer (some ⟨g6,20 * d,none⟩),(f d).v,el kK,r2.v]
      (fun u=>Blk u g7 72 s.c.toArray∧MuM w g3 g4 g5 g6 X f u) (by kernel_rfl) rfl rfl (by kernel_rfl) hS0.out (fun u u' h hk=>⟨h.1.kept hk (by simp),h.2.kept hk⟩) ?_ ?_
     ·refine⟨?_,?_,?_,?_,?_,?_,?_,?_,trivial⟩
      ·exact fun a' u K0 R hS hr ho h=>a0o a0l (.tmp 7) rfl ((ho 7 (by decide)).trans rfl) hS.1 s.size (h u (Kept.refl _ _))
      ·exact fun a' u K0 R hS hr ho h=>a0o a2u.row (.tmp 3) rfl ((ho 3 (by decide)).trans rfl) hS.2.n (by simp [a0x]) (h u (Kept.refl _ _))
      ·exact fun a' u K0 R hS hr ho h=>wp_move (.tmp 8) rfl ((ho 8 (by decide)).trans rfl) (h u (Kept.refl _ _))
      ·refine fun a' u K0 R hS hr ho h=>a0n rfl a9j (vs:=#[ab (le X 32),.int .i64 ((m:Int) - 1)]) ?_ (cg.out u) h
       have h0:=hr 1 (ab (le X 32)) 30 _ rfl rfl rfl ⟨⟨1,.data⟩,by simp,rfl,rfl⟩;have h1:=hr 2 (.int .i64 ((m:Int) - 1)) 31 _ rfl rfl rfl ⟨⟨2,.data⟩,by simp,rfl,rfl⟩;simp [Act.eval]at h0 h1 ⊢;exact⟨h0,h1⟩
      ·exact fun a' u K0 R hS hr ho h=>b9z d7d (.tmp 6) (.tmp 32) rfl ((ho 6 (by decide)).trans rfl) (hr 3 (.int .u8 ((d:Nat):Int)) 32 _ rfl rfl rfl ⟨⟨3,.data⟩,by simp,rfl,rfl⟩) hd (h u (Kept.refl _ _))
      ·exact fun a' u K0 R hS hr ho h=>a2d a0l (.tmp 33) rfl (hr 4 _ 33 _ rfl rfl rfl ⟨⟨4,.data⟩,by simp,rfl,rfl⟩) (hS.2.f.row (fun i=>P4.len _) hd) (P4.len _) (h u (Kept.refl _ _))
      ·exact fun a' u K0 R hS hr ho h=>a0o a0c (.tmp 5) rfl ((ho 5 (by decide)).trans rfl) hS.2.k rfl (h u (Kept.refl _ _))
      ·refine fun a' u K0 R hS hr ho h=>a0n rfl a8h (vs:=#[s.v,(f d).v,el kK]) ?_ (cp.out u) h
       have h0:=hr 0 s.v 29 _ rfl rfl rfl ⟨⟨0,.data⟩,by simp,rfl,rfl⟩;have h1:=hr 5 (f d).v 34 _ rfl rfl rfl ⟨⟨5,.data⟩,by simp,rfl,rfl⟩;have h2:=hr 6 (el kK) 35 _ rfl rfl rfl ⟨⟨6,.data⟩,by simp,rfl,rfl⟩;simp [Act.eval]at h0 h1 h2 ⊢;exact⟨h0,h1,h2⟩
     intro u9 hS9;simp [a1f,List.range,List.range.loop,Act.put];refine a5k a0l (.tmp 7) (.tmp 36) rfl rfl rfl hS9.1 s.size r2.size r2.one ?_;simp [Act.put];have b9:=hS9.1.a5i r2.c.toArray;have kk9:Kept [g7] u9 (u9.setRow g7 r2.c.toArray):=(Kept.refl [g7] u9).setRow (.inl (by simp)) _;have HM:=hjd (MuM.a8u hS9.2 kk9 D.out);clear kk9 hS9 hS0;go_wp2_with fail;go_roundg (m - 1);case measure=>omega
     case rel=>exact⟨m - 1,rfl,by omega,by go_num,by rw [←hr2.out];exact b9,HM.out⟩
  ·obtain rfl:m=0:=by omega
   clear cm e1 e2 cp cg;rw [show 64 - 0=64 from rfl]at H;go_wp2_with (first
    | (with_reducible refine a0d (o:=⟨some 37,_,_,_,_,_⟩) a0l rfl (.tmp 7) rfl rfl H.out (P4.size _) ?_)
    | ((with_reducible refine a0a (o:=⟨none,.store 72 (.tmp 4) (.tmp 37),_,_,_,_⟩) a0l rfl (.tmp 4) (.tmp 37) rfl rfl rfl HM.out.r pz.size (P4.size _) (P4.one _) ?_);intro v9 b9 k9))
   exact a1m a0l rfl rfl b9 (P4.size _) rfl ⟨rfl,HM.out.w.a0r k9 hl4.out⟩
end Go.Proofs.YtdbngnlpafcogaaGreat
namespace Go.Proofs.YtdbngnlpafcogaaGreat
open Go.RowKit Go.Mem Go.Txt
def e1c:Code→List Oper
 | .region _ ops _=>ops.toList
 | .seq a b=>e1c a ++ e1c b
 | .block _ c=>e1c c
 | _=>[]
def strOf(o:Oper):Option ByteArray:=match o.op with
 | .assign (.const (.string s))=>some s
 | _=>none
def second:List ByteArray→ByteArray
 | _ :: s :: _=>s
 | _=>⟨#[]⟩
def codeOf(f:Func):Code:=match f.body with
 | some c=>c
 | none=>.skip
def e4d(f:Func):ByteArray:=second ((e1c (codeOf f)).filterMap strOf)
def stB(s:ByteArray)(j:Nat):Nat:=(s.data.getD j 0).toNat
def e8d(c:Nat):Bool:=(decide (48≤c) && decide (c≤57)) || (decide (97≤c) && decide (c≤102))
def hexs(s:ByteArray):Bool:=s.data.toList.all fun c=>e8d c.toNat
def nib(c:Nat):Nat:=if 97≤c then c - 87 else c - 48
structure Lad (s:ByteArray):Prop where
 run:∀w,Calls Tryz.prog 171 #[] w fun e w'=>e= .returned (.string s)∧Kept [] w w'
 size:s.size=4096
 hexs:hexs s=true
theorem Lad.hex{s:ByteArray}(h:Lad s)(j:Nat)(hj:j < 4096):e8d (stB s j)=true:=by
 have hs:s.data.size=4096:=h.size;have e:stB s j=((s.data.toList)[j]'(by rw [Array.length_toList,hs];exact hj)).toNat:=by
  unfold stB;simp [Array.getD,hs,hj]
 rw [e];exact List.all_eq_true.1 h.hexs _ (List.getElem_mem _)
theorem e6f(w:World):Calls Tryz.prog 171 #[] w fun e w'=>e= .returned (.string (e4d Tryz.f171))∧Kept [] w w':=by
 go_enter Tryz.func171,Tryz.ntmps171;go_wp2_with fail;go_ret;exact⟨by kernel_rfl,Kept.refl _ _⟩
theorem e2i:Lad (e4d Tryz.f171):=⟨e6f,by kernel_rfl,by kernel_rfl⟩
abbrev NiC(c:Nat):Prop:=∀W,Calls Tryz.prog 172 #[.int .u8 (c:Int)] W fun e w'=>e= .returned (.int .u8 ((nib c:Nat):Int))∧Kept [] W w'
theorem c1y{c:Nat}(h:e8d c=true):nib c < 16:=by
 simp [e8d]at h;unfold nib;split <;> omega
theorem d0j(c:Nat)(h:e8d c=true):NiC c:=by
 intro w;have hc:(48≤c∧c≤57)∨(97≤c∧c≤102):=by simpa [e8d]using h
 clear h;rcases hc with⟨h1,h2⟩ | ⟨h1,h2⟩
 ·have e:nib c=c - 48:=if_neg (by omega);have h3:¬97≤c:=by omega
  rw [e];clear e;go_enter Tryz.func172,Tryz.ntmps172;go_wp2_with fail;go_ret;exact⟨by go_num,Kept.refl _ _⟩
 ·have e:nib c=c - 87:=if_pos h1;rw [e];clear e;go_enter Tryz.func172,Tryz.ntmps172;go_wp2_with fail;go_ret;exact⟨by go_num,Kept.refl _ _⟩
def nv(s:ByteArray)(j:Nat):Nat:=nib (stB s (2 * j)) * 16 + nib (stB s (2 * j + 1))
def hx(s:ByteArray)(m:Nat):List UInt8:=(List.range 32).map fun k=>UInt8.ofNat (nv s (32 * m + k))
def laQ(s:ByteArray)(i:Nat):P4:=afQ (b2w (hx s (2 * i))) (b2w (hx s (2 * i + 1)))
theorem laQ_ok(s:ByteArray)(i:Nat):(laQ s i).Ok:=c8x (a3q _) (a3q _)
def c3g(f:Nat→P4):List Value:=rws 32 fun i=>(f i).c
theorem d6r:(Tryz.prog.info? 203).map (·.zero)=some (some (.agg (c3g fun _=>pz).toArray)):=by kernel_rfl
theorem d2n:RowT Tryz.prog 203 640:=⟨⟨_,Tryz.underlying203,rfl⟩,by kernel_rfl⟩
theorem b1p(f:Nat→P4):(c3g f).length=640:=b1d (fun i=>(f i).len) 32
theorem c7e(f:Nat→P4):(c3g f).toArray.all (·.oneCell')=true:=d1n (fun i=>(f i).onel) 32
abbrev u8v(z:Nat):Value:=.int .u8 (z:Int)
theorem zeroXY:(Tryz.prog.info? 223).map (·.zero)=some (some (.agg ((fam 64 a0j).map u8v).toArray)):=by kernel_rfl
theorem or_hex:∀a:Nat,a < 16→∀b:Nat,b < 16→bits .or .u8 ((a:Int) * 16 % 256) ((b:Nat):Int)=((a * 16 + b:Nat):Int):=by decide +kernel
theorem e6w{w:World}{g k:Nat}{bt:TypeId}{f h:Nat→Nat}(hb:Blk w g bt ((fam 64 (mix f h k)).map u8v).toArray)(hk:k < 64) :
 w.cell? ⟨g,k / 32 * 32 + k % 32,none⟩=some (u8v (f k))∧w.frozen? ⟨g,k / 32 * 32 + k % 32,none⟩=false∧Blk (w.setCell ⟨g,k / 32 * 32 + k % 32,none⟩ (u8v (h k))) g bt ((fam 64 (mix f h (k + 1))).map u8v).toArray:=by
 rw [show k / 32 * 32 + k % 32=k from by omega];have h1:=Blk.a8v (v:=u8v) hb k hk;rw [c1i]at h1;exact⟨h1,hb.frozen k,Blk.b2o (v:=u8v) hb⟩
theorem c8e(s:ByteArray)(m:Nat):(hx s m).length=32:=by simp [hx]
theorem nv_lt{s:ByteArray}(h:Lad s)(j:Nat)(hj:j < 2048):nv s j < 256:=by
 have h1:=c1y (h.hex (2 * j) (by omega));have h2:=c1y (h.hex (2 * j + 1) (by omega));unfold nv;omega
theorem d2w{s:ByteArray}(h:Lad s)(m:Nat)(hm:m < 64):(fam 32 fun k=>nv s (32 * m + k)).map u8v=bv (hx s m):=by
 unfold fam hx bv;rw [List.map_map,List.map_map];apply List.map_congr_left;intro k hk;have hk2:k < 32:=by simpa using hk
 have hlt:=nv_lt h (32 * m + k) (by omega);show Value.int .u8 ((nv s (32 * m + k):Nat):Int)=Value.int .u8 (((UInt8.ofNat (nv s (32 * m + k))).toNat:Nat):Int);rw [UInt8.toNat_ofNat',Nat.mod_eq_of_lt (by simpa using hlt)]
theorem e0c{s:ByteArray}(h:Lad s)(n:Nat)(hn:n < 32){hh:Nat→Nat}(he:∀k,hh k=nv s (64 * n + k)):(fam 64 (mix a0j hh 64)).map u8v=bv (hx s (2 * n)) ++ bv (hx s (2 * n + 1)):=by
 rw [a5x 64 fun i hi=>c0g a0j hh hi,←d2w h (2 * n) (by omega),←d2w h (2 * n + 1) (by omega),←List.map_append];congr 1;unfold fam;rw [show(64:Nat)=32 + 32 from rfl,List.range_add,List.map_append,List.map_map];congr 1
 ·apply List.map_congr_left;intro k _;rw [he,show 64 * n + k=32 * (2 * n) + k from by omega]
 ·apply List.map_congr_left;intro k _;show hh (32 + k)=nv s (32 * (2 * n + 1) + k);rw [he,show 64 * n + (32 + k)=32 * (2 * n + 1) + k from by omega]
theorem c5k(f:Nat→P4)(k:Nat):(rws 32 fun j=>if j=k then(f k).c else(a7r f k j).c)=rws 32 fun j=>(a7r f (k + 1) j).c:=b3j 32 fun j _=>by
 unfold a7r;split
 ·rename_i h;subst h;rw [if_pos (by omega)]
 ·by_cases h:j < k
  ·rw [if_pos h,if_pos (by omega)]
  ·rw [if_neg h,if_neg (by omega)]
theorem afQ_c{X Y:Nat→Nat}(hX:Lim X)(hY:Lim Y)(W:World):Calls Tryz.prog 89 #[el X,el Y] W fun e w'=>e= .returned (afQ X Y).v∧Kept [] W w':=b0d X Y hX hY W
theorem laQ_c(s:ByteArray)(n:Nat)(W:World):Calls Tryz.prog 89 #[el (b2w (hx s (2 * n))),el (b2w (hx s (2 * n + 1)))] W fun e w'=>e= .returned (laQ s n).v∧Kept [] W w':=afQ_c (a3q (hx s (2 * n))) (a3q (hx s (2 * n + 1))) W
theorem d3r(s:ByteArray)(j:Nat)(hj:j < s.size):stB s j=s[j].toNat:=by
 have:j < s.data.size:=hj;unfold stB;simp only [Array.getD,this,dif_pos];rfl
set_option maxHeartbeats 3200000 in
theorem d0h{s:ByteArray}(hs:Lad s)(w:World):Calls Tryz.prog 153 #[] w fun e w'=>e= .returned (.agg (c3g (laQ s)).toArray)∧Kept [] w w':=by
 have cs:=hjd hs.run;have hz:=hs.size;have es:=hjd (fun(j:Nat) (hj:j < s.size)=>d3r s j hj);have cn:=hjd (fun(j:Nat) (hj:j < s.size)=>show NiC (s[j].toNat)from by rw [←d3r s j hj];exact d0j (stB s j) (hs.hex j (hz▸hj)));have nl:=hjd (fun j hj=>c1y (hs.hex j hj));go_enter Tryz.func153,Tryz.ntmps153;go_wp2_with (first
  | ((with_reducible refine a0h (o:=⟨some 0,_,_,_,_,_⟩) rfl rfl d6r ?_);intro g0 w0 m0)
  | ((with_reducible refine a0h (o:=⟨some 1,_,_,_,_,_⟩) rfl rfl d6r ?_);intro g1 w1 m1)
  | (go_at_call 171;(with_reducible refine(cs.out _).mono ?_);rintro e y1 ⟨rfl,kk⟩))
 have B0:=hjd (show Blk y1 g0 203 (c3g fun _=>pz).toArray from(m0.blk.kept m1.kept (by simp)).kept kk (by simp));have B1:=hjd (show Blk y1 g1 203 (rws 32 fun i=>(a7r (laQ s) 0 i).c).toArray from m1.blk.kept kk (by simp));have D:=hjd (show g0≠g1∧w.heap.size≤g0∧w.heap.size≤g1∧g0 < y1.heap.size∧g1 < y1.heap.size from⟨m1.ne m0.blk.lt,m0.le,Nat.le_trans m0.kept.size m1.le,B0.out.lt,B1.out.lt⟩);have K:=hjd ((m0.kept.a0g m1.kept).a0g kk);clear m0 m1 kk;go_loopg [8] 32 (fun fu i wk=>∃n:Nat,n≤32∧fu + n=32∧i= .int .i64 (n:Int)∧Blk wk g1 203 (rws 32 fun i=>(a7r (laQ s) n i).c).toArray∧Kept [g1] y1 wk);case atStart=>exact⟨0,Nat.zero_le _,rfl,rfl,B1.out,Kept.refl _ _⟩
 case round=>
  obtain⟨n,hn,hf,rfl,hb,hkw⟩:=hrel;have H:=hjd hb;have HK:=hjd hkw;clear hb hkw B1;by_cases hlt:n < 32
  ·go_wp2_with (first
    | ((with_reducible refine a0h (o:=⟨some 4,_,_,_,_,_⟩) rfl rfl zeroXY ?_);intro g4 w4 m4))
   have D4:=hjd (show g1≠g4∧y1.heap.size≤g4 from⟨m4.ne H.out.lt,Nat.le_trans HK.out.size m4.le⟩);have H4:=hjd (H.out.kept m4.kept (by simp));have HK4:=hjd (HK.out.a0g m4.kept);obtain⟨hh,hhe⟩:∃hh:Nat→Nat,∀k,hh k=nv s (64 * n + k):=⟨fun k=>nv s (64 * n + k),fun _=>rfl⟩;replace hhe:=hjd hhe;have X4:=hjd (show Blk w4 g4 223 ((fam 64 (mix a0j hh 0)).map u8v).toArray from m4.blk);clear m4 H HK;go_loopg [11] 64 (fun fu i wk=>∃k:Nat,k≤64∧fu + k=64∧i= .int .i64 (k:Int)∧Blk wk g4 223 ((fam 64 (mix a0j hh k)).map u8v).toArray∧Kept [g4] w4 wk);case atStart=>exact⟨0,Nat.zero_le _,rfl,rfl,X4.out,Kept.refl _ _⟩
   case round=>
    obtain⟨k,hk,hf2,rfl,hb,hkw⟩:=hrel;by_cases hlt2:k < 64
    ·have h1:128 * n + 2 * k < s.size:=by omega
     have h2:128 * n + 2 * k + 1 < s.size:=by omega
     have c1:=hjd (cn.out (128 * n + 2 * k) h1);have c2:=hjd (cn.out (128 * n + 2 * k + 1) h2);have hcell:=hjd (fun(u:World) (hu:Kept [] wr u)=>e6w (hb.kept hu (by simp)) hlt2);have hor:=or_hex (nib (s[128 * n + 2 * k].toNat)) (by rw [←es.out _ h1];exact nl.out _ (by omega)) (nib (s[128 * n + 2 * k + 1].toNat)) (by rw [←es.out _ h2];exact nl.out _ (by omega));have hnv:nib (s[128 * n + 2 * k].toNat) * 16 + nib (s[128 * n + 2 * k + 1].toNat)=nv s (64 * n + k):=by
      unfold nv;rw [show 2 * (64 * n + k)=128 * n + 2 * k from by omega,es.out _ h1,es.out _ h2]
     rw [hnv,←hhe.out k]at hor;clear hnv hb;have HK5:=hjd hkw;clear hkw;go_wp2_with fail;refine Txt.a2g (by kernel_rfl) (by kernel_rfl) ?_;go_wp2_with (first
      | (go_at_call 172;(with_reducible refine(c1.out _).mono ?_);rintro e y5 ⟨rfl,kk5⟩)
      | (go_at_call 172;(with_reducible refine(c2.out _).mono ?_);rintro e y6 ⟨rfl,kk6⟩;have k6:=hjd (kk5.a1r.a0g kk6);have q0:=(hcell.out _ k6.out).1;have z0:=(hcell.out _ k6.out).2.1;have b6:=hjd ((hcell.out _ k6.out).2.2)))
     refine⟨rfl,by kernel_rfl,?_⟩;have HK6:=hjd ((HK5.out.a0g k6.out).setCell (p:=⟨g4,k / 32 * 32 + k % 32,none⟩) (.inl (by simp)) (u8v (hh k)));clear q0 z0 hcell kk5 kk6 k6 HK5;go_wp2_with fail;go_roundg (64 - (k + 1));case measure=>omega
     case rel=>exact⟨k + 1,by omega,by omega,by go_num,b6.out,HK6.out⟩
    ·obtain rfl:k=64:=by omega
     rw [e0c hs n hlt hhe.out]at hb;have H5:=hjd (H4.out.kept hkw (by simpa using D4.out.1));have HK5:=hjd (HK4.out.a0r hkw D4.out.2);have l1:=hjd (show(bv (hx s (2 * n))).length=32 by simp [c8e]);have l2:=hjd (show(bv (hx s (2 * n + 1))).length=32 by simp [c8e]);have ce1:=hjd (show∀W,Calls Tryz.prog 90 #[.agg (bv (hx s (2 * n))).toArray] W fun e w'=>e= .returned (el (b2w (hx s (2 * n))))∧Kept [] W w' from a5p (hx s (2 * n)) (c8e s (2 * n)));have ce2:=hjd (show∀W,Calls Tryz.prog 90 #[.agg (bv (hx s (2 * n + 1))).toArray] W fun e w'=>e= .returned (el (b2w (hx s (2 * n + 1))))∧Kept [] W w' from a5p (hx s (2 * n + 1)) (c8e s (2 * n + 1)));have caf:=hjd (laQ_c s n);have S0:=hjd hb;clear hb hkw X4 H4 HK4;generalize b2w (hx s (2 * n))=FX at *;generalize b2w (hx s (2 * n + 1))=FY at *;generalize bv (hx s (2 * n))=BX at *;generalize bv (hx s (2 * n + 1))=BY at *;go_wp2_with fail;refine Txt.a1k [2,5] (fun u=>Blk u g4 223 (BX ++ BY).toArray) [[_,_,_,_],[_,_,_],[_],[_,_],[]] (by kernel_rfl) (by kernel_rfl) rfl S0.out (Txt.a0e ?_);have r1:∀u:World,Blk u g4 223 (BX ++ BY).toArray→u.rangeAt g4 0 BX:=fun u h=>Blk.range (pre:=[]) h rfl
     have r2:∀u:World,Blk u g4 223 (BX ++ BY).toArray→u.rangeAt g4 32 BY:=fun u h=>Blk.range (pre:=BX) (post:=[]) (by rwa [List.append_nil]) l1.out
     replace r1:=hjd r1;replace r2:=hjd r2;go_wp2_with (first
      | (refine a1i (o:=⟨some 39,_,_,_,_,_⟩) a2u.row rfl (.tmp 38) rfl rfl (r1.out _ S0.out) l1.out ?_)
      | (go_at_call 90;(with_reducible refine(ce1.out _).mono ?_);rintro e y6 ⟨rfl,kk6⟩;have S1:=hjd (S0.out.kept kk6.a1r (by simp))))
     refine⟨rfl,S1.out,Txt.a0e ?_⟩;go_wp2_with (first
      | (refine a1i (o:=⟨some 42,_,_,_,_,_⟩) a2u.row rfl (.tmp 41) rfl rfl (r2.out _ S1.out) l2.out ?_)
      | (go_at_call 90;(with_reducible refine(ce2.out _).mono ?_);rintro e y7 ⟨rfl,kk7⟩;have S2:=hjd (S1.out.kept kk7 (by simp))))
     refine⟨rfl,S2.out,Txt.a0e ?_⟩;go_wp2_with (go_at_call 89;(with_reducible refine(caf.out _).mono ?_);rintro e y8 ⟨rfl,kk8⟩;have S3:=hjd (S2.out.kept kk8 (by simp)));refine⟨rfl,S3.out,Txt.a0e ?_⟩;have k8:=hjd ((kk6.a1r.a0g kk7).a0g kk8);have H8:=hjd (H5.out.kept k8.out (by simp));have HK8:=hjd (HK5.out.a0g k8.out);clear kk6 kk7 kk8 H5 HK5 S1 S2;go_wp2_with (first
      | ((refine a9t (o:=⟨none,.store 72 (.tmp 45) (.tmp 44),_,_,_,_⟩) (q:=(laQ s n).c) (i:=n) a0l rfl (.tmp 45) (.tmp 44) rfl (by simp [Act.eval,Nat.mul_comm]) rfl H8.out (fun i=>P4.len _) hlt (P4.len _) (P4.one _) ?_);intro w9 b9 k9))
     have S4:=hjd (S3.out.kept k9 (by simpa using fun e=>D4.out.1 e.symm));refine⟨rfl,S4.out,Txt.a0e ?_⟩;refine⟨rfl,S4.out,Txt.a0w ⟨⟨by kernel_rfl,?_⟩,?_⟩⟩
     ·intro j hj o ho hw;have hj2:j=2∨j=5:=by simpa using hj
      rcases hj2 with rfl | rfl <;> cases ho
      ·exact⟨39,rfl,fun u hu=>a5n a2u.row (.tmp 38) rfl rfl (r1.out _ hu) l1.out⟩
      ·exact⟨42,rfl,fun u hu=>a5n a2u.row (.tmp 41) rfl rfl (r2.out _ hu) l2.out⟩
     rw [c5k]at b9;have HK9:=hjd (HK8.out.trans' k9);clear S0 S3 S4 k8 k9 HK8 H8;go_wp2_with fail;go_roundg (32 - (n + 1));case measure=>omega
     case rel=>exact⟨n + 1,by omega,by omega,by go_num,b9,HK9.out⟩
  ·obtain rfl:n=32:=by omega
   have e32:(rws 32 fun i=>(a7r (laQ s) 32 i).c)=c3g (laQ s):=b3j 32 fun i hi=>by unfold a7r;rw [if_pos hi]
   rw [e32]at H;have H0:=hjd (B0.out.kept HK.out (by simpa using D.out.1));have KW:=hjd (K.out.a0r HK.out D.out.2.2.1);clear e32 K HK;have s1:=hjd (show(c3g (laQ s)).toArray.size=640 by rw [List.size_toArray,b1p]);have s2:=hjd (show(c3g fun _=>pz).toArray.size=640 by rw [List.size_toArray,b1p]);have o1:=hjd (c7e (laQ s));go_wp2_with (first
    | (refine a0d (o:=⟨some 47,_,_,_,_,_⟩) d2n rfl (.tmp 1) rfl rfl H.out s1.out ?_)
    | ((refine a0a (o:=⟨none,.store 203 (.tmp 0) (.tmp 47),_,_,_,_⟩) d2n rfl (.tmp 0) (.tmp 47) rfl rfl rfl H0.out s2.out s1.out o1.out ?_);intro w9 b9 k9))
   exact a1m d2n rfl rfl b9 s1.out rfl ⟨rfl,KW.out.a0r k9 D.out.2.1⟩
end Go.Proofs.YtdbngnlpafcogaaGreat
namespace Go.Proofs.YtdbngnlpafcogaaGreat
open Go.RowKit Go.Mem Go.Txt
theorem d2a(f:Nat→P4)(i:Nat)(hi:i < 32)(w:World):(Instr.index 203 (.agg (c3g f).toArray) (.int .i64 (i:Int))).run Tryz.prog w= .ok (f i).v w:=by
 have h1:∀w,(sizeOf 72).run Tryz.prog w= .ok 20 w:=fun w=>by kernel_rfl
 have h2:(isAgg 72).run Tryz.prog w= .ok true w:=by kernel_rfl
 have h3:(0:Int)≤(i:Int)∧(i:Int) < ((32:Nat):Int):=by omega
 have h4:List.take 20 (List.drop (i * 20) (c3g f))=(f i).c:=by
  obtain⟨post,hp⟩:=b1v (fun i=>(f i).c) 32 i hi;have hl:=b1d (f:=fun i=>(f i).c) (fun i=>(f i).len) i;have e:c3g f=rws i (fun i=>(f i).c) ++ ((f i).c ++ post):=hp (fun i=>(f i).c) fun _ _=>rfl
  rw [e,List.drop_left' (by rw [hl,Nat.mul_comm]),List.take_left' (P4.len _)]
 unfold Instr.index;simp [asIntOf,run_underlying Tryz.underlying203,h1,part,hi,h4]
def tb(X j:Nat):Bool:=decide (X / 2 ^ j % 2=1)
def baI(f:Nat→P4)(X b:Nat)(r:P4):Nat→P4
 | 0=>r
 | i + 1=>if tb X (8 * i + b)then plQ (baI f X b r i) (f i) kK else baI f X b r i
theorem c8k{f:Nat→P4}(hf:∀i,(f i).Ok)(X b:Nat){r:P4}(hr:r.Ok):∀i,(baI f X b r i).Ok
 | 0=>hr
 | i + 1=>by
   unfold baI;split
   ·exact b4f (c8k hf X b hr i) (hf i) a4y
   ·exact c8k hf X b hr i
def baA(f:Nat→P4)(X:Nat):Nat→P4
 | 0=>rtQ pz
 | k + 1=>baI f X (7 - k) (dbQ (baA f X k)) 32
theorem d3c{f:Nat→P4}(hf:∀i,(f i).Ok)(X:Nat):∀k,(baA f X k).Ok
 | 0=>a6m d3a
 | k + 1=>c8k hf X _ (c7t (d3c hf X k)) 32
theorem d9m(f:Nat→P4)(X m:Nat)(h:0 < m)(h2:m≤8):baA f X (8 - (m - 1))=baI f X (m - 1) (dbQ (baA f X (8 - m))) 32:=by
 rw [show 8 - (m - 1)=(8 - m) + 1 from by omega,baA,show 7 - (8 - m)=m - 1 from by omega]
theorem and1:∀n:Nat,n < 256→bits .and .u8 ((n:Nat):Int) 1=((n % 2:Nat):Int):=by decide +kernel
theorem e3j(X i b:Nat)(hb:b < 8):byt X i / 2 ^ b % 2=X / 2 ^ (8 * i + b) % 2:=by
 unfold byt;rw [Nat.pow_add,←Nat.div_div_eq_div_mul];generalize X / 2 ^ (8 * i)=Y;have h8:b=0∨b=1∨b=2∨b=3∨b=4∨b=5∨b=6∨b=7:=by omega
 rcases h8 with rfl | rfl | rfl | rfl | rfl | rfl | rfl | rfl <;> omega
theorem tb_bit(X i b:Nat)(hb:b < 8):bits .and .u8 (((byt X i:Nat):Int) / 2 ^ b) 1=(if tb X (8 * i + b)then 1 else 0):=by
 have h:=and1 (byt X i / 2 ^ b) (Nat.lt_of_le_of_lt (Nat.div_le_self _ _) (c6t X i));rw [e3j X i b hb]at h
 push_cast at h
 rw [h];unfold tb;by_cases hx:X / 2 ^ (8 * i + b) % 2=1
 ·rw [decide_eq_true hx,if_pos rfl];have:((X / 2 ^ (8 * i + b) % 2:Nat):Int)=1:=by rw [hx];rfl
  push_cast at this
  exact this
 ·have hx0:X / 2 ^ (8 * i + b) % 2=0:=by omega
  rw [decide_eq_false hx,if_neg (by decide)];have:((X / 2 ^ (8 * i + b) % 2:Nat):Int)=0:=by rw [hx0];rfl
  push_cast at this
  exact this
structure BaM (w0:World) (g1 g2 g3 g4:Nat) (X:Nat) (f:Nat→P4) (u:World):Prop where
 n:Blk u g1 22 (bv (le X 32)).toArray
 r:Blk u g2 72 pz.c.toArray
 k:Blk u g3 70 (uv (fam 5 kK)).toArray
 f:Blk u g4 203 (c3g f).toArray
 w:Kept [] w0 u
theorem BaM.kept{w0:World}{g1 g2 g3 g4:Nat}{X:Nat}{f:Nat→P4}{u u':World}(h:BaM w0 g1 g2 g3 g4 X f u)(hk:Kept [] u u'):BaM w0 g1 g2 g3 g4 X f u':=⟨h.n.kept hk (by simp),h.r.kept hk (by simp),h.k.kept hk (by simp),h.f.kept hk (by simp),h.w.a0g hk⟩
theorem BaM.a8u{w0:World}{g g1 g2 g3 g4:Nat}{X:Nat}{f:Nat→P4}{u u':World}(h:BaM w0 g1 g2 g3 g4 X f u)(hk:Kept [g] u u')(d:g1≠g∧g2≠g∧g3≠g∧g4≠g∧w0.heap.size≤g):BaM w0 g1 g2 g3 g4 X f u':=
 ⟨h.n.kept hk (by simpa using d.1),h.r.kept hk (by simpa using d.2.1),h.k.kept hk (by simpa using d.2.2.1),h.f.kept hk (by simpa using d.2.2.2.1),h.w.a0r hk d.2.2.2.2⟩
theorem MuKeep{w0:World}{g g1 g2 g3 g4:Nat}{X:Nat}{f:Nat→P4}{u u1 u2:World}(h:BaM w0 g1 g2 g3 g4 X f u)(k1:Kept [] u u1)(hk:Kept [g] u1 u2)(d:g1≠g∧g2≠g∧g3≠g∧g4≠g∧w0.heap.size≤g):BaM w0 g1 g2 g3 g4 X f u2:=(h.kept k1).a8u hk d
abbrev BaC(X:Nat)(r:P4):Prop:=∀W,Calls Tryz.prog 91 #[ab (le X 32)] W fun e w'=>e= .returned r.v∧Kept [] W w'
set_option maxHeartbeats 3200000 in
theorem d7a{s:ByteArray}(hs:Lad s)(X:Nat):BaC X (baA (laQ s) X 8):=by
 intro w;have hf:=laQ_ok s;have cd:=hjd b4m;have cl:=hjd (d0h hs);have cz:=hjd (b0t d3a);have cm:=hjd (fun k=>e5z (d3c hf X k));have ix:=d2a (laQ s);have cp:=hjd (fun m i=>show e5g (baI (laQ s) X (m - 1) (dbQ (baA (laQ s) X (8 - m))) i) (laQ s i) kK (plQ (baI (laQ s) X (m - 1) (dbQ (baA (laQ s) X (8 - m))) i) (laQ s i) kK)from b3p (c8k hf X _ (c7t (d3c hf X _)) i) (hf i) a4y);have u0:=hjd a7b;have e0:baA (laQ s) X 0=rtQ pz:=rfl;rw [←e0]at cz;clear hf hs e0;generalize laQ s=f at *;replace ix:=hjd ix;go_enter Tryz.func91,Tryz.ntmps91;have t:=hjd (Pm.none w);go_wp2_with (first
  | ((with_reducible refine a0q (o:=⟨some 1,_,_,_,_,_⟩) (v:=ab (le X 32)) rfl (.tmp 0) rfl rfl ?_);intro g1 w1 m1;replace t:=hjd ((t.out.kept m1.kept).cons (show Blk w1 g1 22 (bv (le X 32)).toArray from m1.blk));clear m1)
  | ((with_reducible refine a0h (o:=⟨some 2,_,_,_,_,_⟩) rfl rfl a4e ?_);intro g2 w2 m2;have hl2:=hjd (Nat.le_trans t.out.k.size m2.le);replace t:=hjd ((t.out.kept m2.kept).cons (show Blk w2 g2 72 pz.c.toArray from m2.blk));clear m2)
  | (go_at_call 92;(with_reducible refine(cd.out _).mono ?_);rintro e y1 ⟨rfl,kk⟩;replace t:=hjd (t.out.kept kk);clear kk)
  | ((with_reducible refine a0h (o:=⟨some 3,_,_,_,_,_⟩) rfl rfl a1b ?_);intro g3 w3 m3)
  | ((with_reducible refine a0a (o:=⟨none,.store 70 (.tmp 3) (.tmp 9),_,_,_,_⟩) a0c rfl (.tmp 3) (.tmp 9) rfl rfl rfl m3.blk rfl rfl (a0u _) ?_);intro v3 b3 k3;replace t:=hjd (t.out.put m3 b3 k3);clear m3 b3 k3)
  | (go_at_call 153;(with_reducible refine(cl.out _).mono ?_);rintro e y1 ⟨rfl,kk⟩;replace t:=hjd (t.out.kept kk);clear kk)
  | ((with_reducible refine a0h (o:=⟨some 4,_,_,_,_,_⟩) rfl rfl d6r ?_);intro g4 w4 m4)
  | ((refine a0a (o:=⟨none,.store 203 (.tmp 4) (.tmp 10),_,_,_,_⟩) d2n rfl (.tmp 4) (.tmp 10) rfl rfl rfl m4.blk (by rw [show(Value.agg (c3g fun _=>pz).toArray).cells=(c3g fun _=>pz).toArray from rfl,List.size_toArray,b1p]) (by rw [List.size_toArray,b1p]) (c7e f) ?_);intro v4 b4 k4;replace t:=hjd (t.out.put m4 b4 k4);clear m4 b4 k4)
  | (with_reducible refine a0y (o:=⟨some 11,_,_,_,_,_⟩) rfl rfl u0.out ?_)
  | (go_at_call 97;(with_reducible refine(cz.out _).mono ?_);rintro e y1 ⟨rfl,kk⟩;replace t:=hjd (t.out.kept kk);clear kk)
  | ((with_reducible refine a0h (o:=⟨some 5,_,_,_,_,_⟩) rfl rfl a4e ?_);intro g5 w5 m5;have hl5:=hjd (Nat.le_trans t.out.k.size m5.le);have hn5:=hjd (fun p hp=>m5.ne (t.out.s p hp).lt);replace t:=hjd (t.out.kept m5.kept))
  | ((refine a0a (o:=⟨none,.store 72 (.tmp 5) (.tmp 12),_,_,_,_⟩) a0l rfl (.tmp 5) (.tmp 12) rfl rfl rfl m5.blk pz.size (P4.size _) (P4.one _) ?_);intro v8 b8 k8))
 have D:=hjd (show g1≠g5∧g2≠g5∧g3≠g5∧g4≠g5∧w.heap.size≤g5 from⟨hn5.out (g1,22,(bv (le X 32)).toArray) (by simp),hn5.out (g2,72,pz.c.toArray) (by simp),hn5.out (g3,70,(uv (fam 5 kK)).toArray) (by simp),hn5.out (g4,203,(c3g f).toArray) (by simp),hl5.out⟩);have M:=hjd (BaM.a8u (show BaM w g1 g2 g3 g4 X f _ from⟨t.out.s (g1,22,(bv (le X 32)).toArray) (by simp),t.out.s (g2,72,pz.c.toArray) (by simp),t.out.s (g3,70,(uv (fam 5 kK)).toArray) (by simp),t.out.s (g4,203,(c3g f).toArray) (by simp),t.out.k⟩) k8 D.out);clear t hn5 hl5 k8 m5 cz cl cd u0;replace b8:=hjd b8;have s4:=hjd (show(c3g f).toArray.size=640 by rw [List.size_toArray,b1p]);go_loopg [6] 8 (fun fu i wk=>∃m:Nat,fu=m∧m≤8∧i= .int .i64 ((m:Int) - 1)∧Blk wk g5 72 (baA f X (8 - m)).c.toArray∧BaM w g1 g2 g3 g4 X f wk);case atStart=>exact⟨8,rfl,Nat.le_refl _,by go_num,b8.out,M.out⟩
 case round=>
  obtain⟨m,hf3,hm,rfl,hb,hM⟩:=hrel;have H:=hjd hb;have HM:=hjd hM;clear hb hM M b8;by_cases hm0:0 < m
  ·have hi0:(0:Int)≤(m:Int) - 1:=by omega
   have hi1:(1:Int)≤(m:Int):=by omega
   have hi7:((m:Int) - 1).toNat=m - 1:=by omega
   have hst:=hjd (d9m f X m hm0 hm);have cp:=hjd (cp.out m);have cm:=hjd (cm.out (8 - m));generalize dbQ (baA f X (8 - m))=r at *;generalize baA f X (8 - m)=r0 at *;go_wp2_with (first
    | (with_reducible refine a0d (o:=⟨some 17,_,_,_,_,_⟩) a0l rfl (.tmp 5) rfl rfl H.out (P4.size _) ?_)
    | (go_at_call 94;(with_reducible refine(cm.out _).mono ?_);rintro e y1 ⟨rfl,kk⟩;have H1:=hjd (H.out.kept kk (by simp)))
    | ((with_reducible refine a0a (o:=⟨none,.store 72 (.tmp 5) (.tmp 18),_,_,_,_⟩) a0l rfl (.tmp 5) (.tmp 18) rfl rfl rfl H1.out (P4.size _) (P4.size _) (P4.one _) ?_);intro v9 b9 k9;have HM2:=hjd (MuKeep HM.out kk k9 D.out))
    | (refine a0d (o:=⟨some 19,_,_,_,_,_⟩) d2n rfl (.tmp 4) rfl rfl HM2.out.f s4.out ?_))
   replace b9:=hjd b9;go_loopg [20] 32 (fun fu i wk=>∃n:Nat,n≤32∧fu + n=32∧i= .int .i64 (n:Int)∧Blk wk g5 72 (baI f X (m - 1) r n).c.toArray∧BaM w g1 g2 g3 g4 X f wk);case atStart=>exact⟨0,Nat.zero_le _,rfl,rfl,b9.out,HM2.out⟩
   case round=>
    obtain⟨n,hn,hf4,rfl,hb,hM⟩:=hrel;have H:=hjd hb;have HM:=hjd hM;clear hb hM H1 HM2 b9 k9 kk;by_cases hlt:n < 32
    ·have ix1:=ix.out n hlt;have hbit:=tb_bit X n (m - 1) (by omega);have hnx:=hjd (show baI f X (m - 1) r (n + 1)=if tb X (8 * n + (m - 1))then plQ (baI f X (m - 1) r n) (f n) kK else baI f X (m - 1) r n from rfl);have cp:=hjd (cp.out n);generalize plQ (baI f X (m - 1) r n) (f n) kK=r2 at *;by_cases htb:tb X (8 * n + (m - 1))=true
     ·rw [if_pos htb]at hbit;have hnx2:=hjd (hnx.out.trans (if_pos htb));clear hnx htb;go_wp2_with (first
       | ((with_reducible refine a0h (o:=⟨some 8,_,_,_,_,_⟩) rfl rfl a4e ?_);intro g8 w8 m8;have HM8:=hjd (HM.out.kept m8.kept);have H8:=hjd (H.out.kept m8.kept (by simp));have D8:=hjd (show g5≠g8∧g1≠g8∧g2≠g8∧g3≠g8∧g4≠g8∧w.heap.size≤g8 from⟨m8.ne H.out.lt,m8.ne HM.out.n.lt,m8.ne HM.out.r.lt,m8.ne HM.out.k.lt,m8.ne HM.out.f.lt,Nat.le_trans HM.out.w.size m8.le⟩))
       | ((refine a0a (o:=⟨none,.store 72 (.tmp 8) (.tmp 23),_,_,_,_⟩) a0l rfl (.tmp 8) (.tmp 23) rfl rfl rfl m8.blk pz.size (P4.size _) (P4.one _) ?_);intro v10 b10 k10;have HM10:=hjd (BaM.a8u HM8.out k10 D8.out.2);have H10:=hjd (H8.out.kept k10 (by simpa using D8.out.1));have q1:=Blk.getb HM10.out.n hlt)
       | (with_reducible refine a0d (o:=⟨some 32,_,_,_,_,_⟩) a0l rfl (.tmp 5) rfl rfl H10.out (P4.size _) ?_)
       | (with_reducible refine a0d (o:=⟨some 33,_,_,_,_,_⟩) a0l rfl (.tmp 8) rfl rfl b10 (P4.size _) ?_)
       | (with_reducible refine a0d (o:=⟨some 34,_,_,_,_,_⟩) a0c rfl (.tmp 3) rfl rfl HM10.out.k rfl ?_)
       | (go_at_call 95;(with_reducible refine(cp.out _).mono ?_);rintro e y1 ⟨rfl,kk⟩;have HM11:=hjd (HM10.out.kept kk);have H11:=hjd (H10.out.kept kk (by simp)))
       | ((with_reducible refine a0a (o:=⟨none,.store 72 (.tmp 5) (.tmp 35),_,_,_,_⟩) a0l rfl (.tmp 5) (.tmp 35) rfl rfl rfl H11.out (P4.size _) (P4.size _) (P4.one _) ?_);intro v12 b12 k12;have HM12:=hjd (BaM.a8u HM11.out k12 D.out)))
      clear HM10 HM11 H10 H11 HM8 H8 D8 b10 k10 k12 m8 q1;go_roundg (32 - (n + 1));case measure=>omega
      case rel=>exact⟨n + 1,by omega,by omega,by go_num,by rw [hnx2.out];exact b12,HM12.out⟩
     ·rw [if_neg htb]at hbit;have hnx2:=hjd (hnx.out.trans (if_neg htb));clear hnx htb;go_wp2_with (first
       | ((with_reducible refine a0h (o:=⟨some 8,_,_,_,_,_⟩) rfl rfl a4e ?_);intro g8 w8 m8;have HM8:=hjd (HM.out.kept m8.kept);have H8:=hjd (H.out.kept m8.kept (by simp));have D8:=hjd (show g5≠g8∧g1≠g8∧g2≠g8∧g3≠g8∧g4≠g8∧w.heap.size≤g8 from⟨m8.ne H.out.lt,m8.ne HM.out.n.lt,m8.ne HM.out.r.lt,m8.ne HM.out.k.lt,m8.ne HM.out.f.lt,Nat.le_trans HM.out.w.size m8.le⟩))
       | ((refine a0a (o:=⟨none,.store 72 (.tmp 8) (.tmp 23),_,_,_,_⟩) a0l rfl (.tmp 8) (.tmp 23) rfl rfl rfl m8.blk pz.size (P4.size _) (P4.one _) ?_);intro v10 b10 k10;have HM10:=hjd (BaM.a8u HM8.out k10 D8.out.2);have H10:=hjd (H8.out.kept k10 (by simpa using D8.out.1));have q1:=Blk.getb HM10.out.n hlt))
      clear HM8 H8 D8 b10 k10 m8 q1;go_roundg (32 - (n + 1));case measure=>omega
      case rel=>exact⟨n + 1,by omega,by omega,by go_num,by rw [hnx2.out];exact H10.out,HM10.out⟩
    ·obtain rfl:n=32:=by omega
     rw [←hst.out]at H;clear ix cp cm;go_wp2_with fail;go_roundg (m - 1);case measure=>omega
     case rel=>exact⟨m - 1,rfl,by omega,by go_num,H.out,HM.out⟩
  ·obtain rfl:m=0:=by omega
   clear cm cp ix;go_wp2_with (first
    | (with_reducible refine a0d (o:=⟨some 37,_,_,_,_,_⟩) a0l rfl (.tmp 5) rfl rfl H.out (P4.size _) ?_)
    | ((with_reducible refine a0a (o:=⟨none,.store 72 (.tmp 2) (.tmp 37),_,_,_,_⟩) a0l rfl (.tmp 2) (.tmp 37) rfl rfl rfl HM.out.r pz.size (P4.size _) (P4.one _) ?_);intro v9 b9 k9))
   exact a1m a0l rfl rfl b9 (P4.size _) rfl ⟨rfl,HM.out.w.a0r k9 hl2.out⟩
end Go.Proofs.YtdbngnlpafcogaaGreat
