/-
  Field: limbs; carried.
  Field: sums, differences, small numbers.
  Field: small numbers; what sums and differences come to.
  Field: numbers and their bytes (as in sc4, sc5).
  Field: a number's bytes: what is reckoned.
  Field: a number's bytes: the words' bits.
  Field: a number's bytes: the walk.
  math/bits.Mul64: the product in two words.
  Field: products of two words, added up.
  Field: sums of products, gathered.
  Field: what products come to: the plain law.
  Field: sums of products, gathered: the walk.
  Field: words for products: sums of products in a row, and where they lie.
  Field: products: the walk.
  Field: squares: the walk.
  Field: squared so many times.
  Field: words for rows of numbers in memory; two rows given back.
  Field: the powers 2^250 - 1 and 11: the walk.
-/
import Derived.Test.YtdbngnlpafcogaaGreatRows
import Derived.Test.YtdbngnlpafcogaaGreatZcFam
import Derived.Laws.Externs
import Derived.Laws.Bits64b
import Derived.Laws.Shifts
import Derived.WalkKit
import Derived.WalkSpells
import Derived.WalkLawsBesides
import Derived.Deep.LoopGhost
import Derived.Deep.DeepCutAuto
import Derived.Deep.CutBlock
import Derived.BigQuiet
import Derived.Deep.QuietTactic
import Derived.Lib.Mul64
import Derived.Lib.Hide
import Derived.Laws.MathBits
import Derived.Shelf.Abstract
set_option maxRecDepth 100000
namespace Go.Proofs.YtdbngnlpafcogaaGreat
open Go.RowKit Go.Mem
abbrev el(f:Nat→Nat):Value:=.agg (uv (fam 5 f)).toArray
theorem a0u(f:Nat→Nat):(uv (fam 5 f)).toArray.all (·.oneCell')=true:=a2e _
theorem arr5:ArrT Tryz.prog 68 67 5:=⟨Tryz.underlying68,by kernel_rfl⟩
theorem a0c:RowT Tryz.prog 70 5:=⟨⟨_,Tryz.underlying70,rfl⟩,by kernel_rfl⟩
def a0j(_:Nat):Nat:=0
theorem zero5:(Tryz.prog.info? 68).map (·.zero)=some (some (el a0j)):=by kernel_rfl
theorem a1b:(Tryz.prog.info? 70).map (·.zero)=some (some (el a0j)):=by kernel_rfl
theorem build5:Tryz.prog.built 68 []=some (uv (fam 5 a0j)).toArray:=by kernel_rfl
theorem Blk.a7y{w:World}{g:Nat}{bt:TypeId}{n:Nat}{f:Nat→Nat}(h:Blk w g bt (uv (fam n f)).toArray)(i:Nat)(hi:i < n):w.cell? ⟨g,i,none⟩=some (.int .u64 (f i:Int)):=Blk.a8v (v:=fun z:Nat=>Value.int .u64 (z:Int)) h i hi
def loL(f:Nat→Nat)(i:Nat):Nat:=f i % 2251799813685248
def hiL(f:Nat→Nat)(i:Nat):Nat:=f i / 2251799813685248
def c8o(f:Nat→Nat)(i:Nat):Nat:=if i=0 then loL f 0 + 19 * hiL f 4 else loL f i
def a5l(f:Nat→Nat)(i:Nat):Nat:=if i=0 then loL f 0 + 19 * hiL f 4 else loL f i + hiL f (i - 1)
theorem mask51(x:Nat):x &&& 2251799813685247=x % 2251799813685248:=Nat.and_two_pow_sub_one_eq_mod x 51
theorem b7i(x:Nat)(h:x < 18446744073709551616):bits .and .u64 (x:Int) 2251799813685247=((x % 2251799813685248:Nat):Int):=by
 rw [←mask51];exact u64_and_nat x 2251799813685247 h (by omega)
structure Car (w0:World) (g1 g2 g3:Nat) (f c:Nat→Nat) (u:World):Prop where
 a:Blk u g1 70 (uv (fam 5 f)).toArray
 r:Blk u g2 70 (uv (fam 5 a0j)).toArray
 c:Blk u g3 68 (uv (fam 5 c)).toArray
 k:Kept [] w0 u
structure Far3 (w0:World) (g1 g2 g3:Nat):Prop where
 n12:g1≠g2
 n13:g1≠g3
 n23:g2≠g3
 l1:w0.heap.size≤g1
 l2:w0.heap.size≤g2
 l3:w0.heap.size≤g3
theorem Car.setc{w0:World}{g1 g2 g3 k:Nat}{f c h:Nat→Nat}{u:World}(H:Car w0 g1 g2 g3 f (mix c h k) u)(n:Far3 w0 g1 g2 g3):Car w0 g1 g2 g3 f (mix c h (k + 1)) (u.setCell ⟨g3,k,none⟩ (.int .u64 (h k:Nat))):=
 have hk:Kept [g3] u (u.setCell ⟨g3,k,none⟩ (.int .u64 (h k:Nat))):=(Kept.refl [g3] u).setCell (.inl (by simp)) _
 ⟨H.a.kept hk (by simpa using n.n13),H.r.kept hk (by simpa using n.n23),H.c.b2o (v:=fun z:Nat=>Value.int .u64 (z:Int)),H.k.a0r hk n.l3⟩
theorem Car.seta{w0:World}{g1 g2 g3 k:Nat}{f c h:Nat→Nat}{u:World}(H:Car w0 g1 g2 g3 (mix f h k) c u)(n:Far3 w0 g1 g2 g3):Car w0 g1 g2 g3 (mix f h (k + 1)) c (u.setCell ⟨g1,k,none⟩ (.int .u64 (h k:Nat))):=
 have hk:Kept [g1] u (u.setCell ⟨g1,k,none⟩ (.int .u64 (h k:Nat))):=(Kept.refl [g1] u).setCell (.inl (by simp)) _
 ⟨H.a.b2o (v:=fun z:Nat=>Value.int .u64 (z:Int)),H.r.kept hk (by simpa using Ne.symm n.n12),H.c.kept hk (by simpa using Ne.symm n.n13),H.k.a0r hk n.l1⟩
theorem Car.drew{w0:World}{g1 g2 g3:Nat}{f c:Nat→Nat}{u:World}(H:Car w0 g1 g2 g3 f c u):Car w0 g1 g2 g3 f c u.drew:=⟨H.a,H.r,H.c,H.k.drew⟩
theorem Car.same{w0:World}{g1 g2 g3:Nat}{f c f' c':Nat→Nat}{u:World}(H:Car w0 g1 g2 g3 f c u)(hf:fam 5 f=fam 5 f')(hc:fam 5 c=fam 5 c'):Car w0 g1 g2 g3 f' c' u:=⟨hf▸H.a,H.r,hc▸H.c,H.k⟩
set_option maxHeartbeats 1600000 in
theorem a6q(F:Nat→Nat)(w:World)(hF:∀i,i < 5→F i < 18446744073709551616) :
 Calls Tryz.prog 159 #[el F] w fun e w'=>e= .returned (el (a5l F))∧Kept [] w w':=by
 have hF2:=hjd hF;clear hF;go_enter Tryz.func159,Tryz.ntmps159;go_wp2_with (first
  | ((with_reducible refine a0q (o:=⟨some 1,_,_,_,_,_⟩) (v:=el F) rfl (.tmp 0) rfl rfl ?_);intro g1 w1 m1)
  | ((with_reducible refine a0h (o:=⟨some 2,_,_,_,_,_⟩) rfl rfl a1b ?_);intro g2 w2 m2)
  | (refine a0y rfl rfl build5 ?_)
  | ((with_reducible refine a0h (o:=⟨some 3,_,_,_,_,_⟩) rfl rfl zero5 ?_);intro g3 w3 m3)
  | (refine a1p arr5 rfl (.tmp 3) (.tmp 6) rfl rfl rfl m3.blk rfl rfl (a0u _) ?_;intro w4 b4 k4))
 have N:=hjd (show Far3 w g1 g2 g3 from⟨m2.ne m1.blk.lt,m3.ne (m2.kept.lt m1.blk.lt),m3.ne m2.blk.lt,m1.le,Nat.le_trans m1.kept.size m2.le,Nat.le_trans (m1.kept.a0g m2.kept).size m3.le⟩)
 have H0:=hjd (show Car w g1 g2 g3 (mix F (loL F) 0) (mix a0j (hiL F) 0) w4 from
  ⟨by rw [b0e];exact((m1.blk.kept m2.kept (by simp)).kept m3.kept (by simp)).kept k4 (by simpa using N.out.n13),(m2.blk.kept m3.kept (by simp)).kept k4 (by simpa using N.out.n23),by rw [b0e];exact b4,((m1.kept.a0g m2.kept).a0g m3.kept).a0r k4 N.out.l3⟩)
 clear m1 m2 m3 b4 k4;go_loopg [7] 5 (fun f i wk=>∃k:Nat,k≤5∧f + k=5∧i= .int .i64 k∧Car w g1 g2 g3 (mix F (loL F) k) (mix a0j (hiL F) k) wk);case atStart=>exact⟨0,Nat.zero_le _,rfl,rfl,H0.out⟩
 case round=>
  obtain⟨k,hk,hf,rfl,hs⟩:=hrel;have H:=hjd hs;clear hs;by_cases hlt:k < 5
  ·have H1:=hjd (H.out.setc N.out);have H2:=hjd (H1.out.seta N.out);have c1:=Blk.a7y H.out.a k hlt;have c2:=Blk.a7y H1.out.a k hlt;rw [c1i]at c1 c2;have z1:=H.out.c.frozen k;have z2:=H1.out.a.frozen k;have c3:=Blk.a7y H.out.c k hlt;have hb:=hF2.out k hlt;have hm:bits .and .u64 ((F k:Nat):Int) 2251799813685247=((loL F k:Nat):Int):=b7i (F k) hb;have hd:((F k:Nat):Int) / 2251799813685248=((hiL F k:Nat):Int):=by unfold hiL;omega
   go_wp2_with fail
   go_roundg (5 - (k + 1));case measure=>omega
   case rel=>exact⟨k + 1,by omega,by omega,by go_num,H2.out⟩
  ·obtain rfl:k=5:=by omega
   have H1:=hjd (H.out.same (a4s 5 F (loL F)) (a4s 5 a0j (hiL F)));have c1:=Blk.a7y H1.out.a 0 (by omega);have c2:=Blk.a7y H1.out.c 4 (by omega);have z1:=H1.out.a.frozen 0;have hbs:=hjd (show∀i,i < 5→loL F i < 2251799813685248∧hiL F i < 8192 from fun i hi=>by have:=hF2.out i hi;unfold loL hiL;omega);have b1:=(hbs.out 0 (by omega)).1;have b2:=(hbs.out 4 (by omega)).2;have hmid:((loL F 0:Nat):Int) + 19 * ((hiL F 4:Nat):Int)=((c8o F 0:Nat):Int):=by unfold c8o;simp
   have H2:=hjd (show Car w g1 g2 g3 (mix (c8o F) (a5l F) 1) (hiL F) (wr.setCell ⟨g1,0,none⟩ (.int .u64 (c8o F 0:Nat)))from by
    have hk:Kept [g1] wr (wr.setCell ⟨g1,0,none⟩ (.int .u64 (c8o F 0:Nat))):=(Kept.refl [g1] wr).setCell (.inl (by simp)) _;have e:fam 5 (fun j=>if j=0 then c8o F 0 else loL F j)=fam 5 (mix (c8o F) (a5l F) 1):=a5x 5 fun j _=>by
     unfold mix a5l c8o;by_cases h:j=0
     ·subst h;rfl
     ·rw [if_neg h,if_neg (by omega),if_neg h]
    have ha:=H1.out.a.e6l (v:=fun z:Nat=>Value.int .u64 (z:Int)) 0 (c8o F 0);rw [e]at ha;exact⟨ha,H1.out.r.kept hk (by simpa using Ne.symm N.out.n12),H1.out.c.kept hk (by simpa using Ne.symm N.out.n13),H1.out.k.a0r hk N.out.l1⟩)
   go_wp2_with fail
   obtain⟨wq,hwq⟩:∃wq:World,wq=wr.setCell ⟨g1,0,none⟩ (.int .u64 (c8o F 0:Nat)):=⟨_,rfl⟩;rw [←hwq]at H2 ⊢;clear hwq H1 c1 c2 z1 b1 b2 hmid;go_loopg [5] 4 (fun f i wk=>∃k:Nat,1≤k∧k≤5∧f + k=5∧i= .int .i64 k∧Car w g1 g2 g3 (mix (c8o F) (a5l F) k) (hiL F) wk);case atStart=>exact⟨1,by omega,by omega,by omega,rfl,H2.out⟩
   case round=>
    obtain⟨k,hk1,hk,hf,rfl,hs⟩:=hrel;have H:=hjd hs;clear hs;by_cases hlt:k < 5
    ·have H3:=hjd (H.out.seta N.out);have c1:=Blk.a7y H.out.a k hlt;rw [c1i]at c1;have c2:=Blk.a7y H.out.c (k - 1) (by omega);have z1:=H.out.a.frozen k;have e1:c8o F k=loL F k:=by unfold c8o;rw [if_neg (by omega)]
     rw [e1]at c1;have b1:=(hbs.out k (by omega)).1;have b2:=(hbs.out (k - 1) (by omega)).2;have hcar:((loL F k:Nat):Int) + ((hiL F (k - 1):Nat):Int)=((a5l F k:Nat):Int):=by unfold a5l;rw [if_neg (by omega)];omega
     have hi1:(1:Int)≤(k:Int):=by omega
     have hi0:(0:Int)≤(k:Int) - 1:=by omega
     clear e1;go_wp2_with fail;refine Txt.a2g (by kernel_rfl) (by kernel_rfl) ?_;go_wp2_with fail;refine⟨rfl,by kernel_rfl,?_⟩;go_wp2_with fail;go_roundg (5 - (k + 1));case measure=>omega
     case rel=>exact⟨k + 1,by omega,by omega,by omega,by go_num,H3.out.drew⟩
    ·obtain rfl:k=5:=by omega
     have H3:=hjd (H.out.same (a4s 5 (c8o F) (a5l F)) rfl);go_wp2_with (first
      | (refine a0d a0c rfl (.tmp 1) rfl rfl H3.out.a rfl ?_)
      | (refine a0a a0c rfl (.tmp 2) (.tmp 49) rfl rfl rfl H3.out.r rfl rfl (a0u _) ?_;intro w8 b8 k8))
     exact a1m a0c rfl rfl b8 rfl rfl ⟨rfl,H3.out.k.a0r k8 N.out.l2⟩
end Go.Proofs.YtdbngnlpafcogaaGreat
namespace Go.Proofs.YtdbngnlpafcogaaGreat
open Go.RowKit Go.Mem
def Lim(F:Nat→Nat):Prop:=∀i,i < 5→F i < 4503599627370496
def fv(F:Nat→Nat):Nat:=F 0 + 2251799813685248 * F 1 + 5070602400912917605986812821504 * F 2 + 11417981541647679048466287755595961091061972992 * F 3 + 25711008708143844408671393477458601640355247900524685364822016 * F 4
def PP:Nat:=57896044618658097711785492504343953926634992332820282019728792003956564819949
theorem a3l:0 < PP:=by decide +kernel
theorem b0f(F:Nat→Nat)(h:∀i,i < 5→F i < 18446744073709551616):Lim (a5l F):=by
 intro i hi;have h4:=h 4 (by omega);have hi2:=h i hi;have hi3:=h (i - 1) (by omega);unfold a5l loL hiL;split <;> omega
theorem d8t(F:Nat→Nat):fv (a5l F) + PP * hiL F 4=fv F:=by
 unfold fv;rw [show a5l F 0=loL F 0 + 19 * hiL F 4 from rfl,show a5l F 1=loL F 1 + hiL F 0 from rfl,show a5l F 2=loL F 2 + hiL F 1 from rfl,show a5l F 3=loL F 3 + hiL F 2 from rfl,show a5l F 4=loL F 4 + hiL F 3 from rfl];unfold PP loL hiL;omega
theorem b2k(F:Nat→Nat):fv (a5l F) % PP=fv F % PP:=by
 rw [←d8t F,Nat.add_mul_mod_self_left]
structure Two (w0:World) (g2 g3 g4:Nat) (f c:Nat→Nat) (u:World):Prop where
 a:Blk u g2 70 (uv (fam 5 f)).toArray
 b:Blk u g3 70 (uv (fam 5 c)).toArray
 r:Blk u g4 70 (uv (fam 5 a0j)).toArray
 k:Kept [] w0 u
theorem Two.seta{w0:World}{g1 g2 g3 k:Nat}{f c h:Nat→Nat}{u:World}(H:Two w0 g1 g2 g3 (mix f h k) c u)(n:Far3 w0 g1 g2 g3):Two w0 g1 g2 g3 (mix f h (k + 1)) c (u.setCell ⟨g1,k,none⟩ (.int .u64 (h k:Nat))):=
 have hk:Kept [g1] u (u.setCell ⟨g1,k,none⟩ (.int .u64 (h k:Nat))):=(Kept.refl [g1] u).setCell (.inl (by simp)) _
 ⟨H.a.b2o (v:=fun z:Nat=>Value.int .u64 (z:Int)),H.b.kept hk (by simpa using Ne.symm n.n12),H.r.kept hk (by simpa using Ne.symm n.n13),H.k.a0r hk n.l1⟩
theorem Two.drew{w0:World}{g1 g2 g3:Nat}{f c:Nat→Nat}{u:World}(H:Two w0 g1 g2 g3 f c u):Two w0 g1 g2 g3 f c u.drew:=⟨H.a,H.b,H.r,H.k.drew⟩
theorem Two.kept{w0:World}{g1 g2 g3:Nat}{f c:Nat→Nat}{u u':World}(H:Two w0 g1 g2 g3 f c u)(hk:Kept [] u u'):Two w0 g1 g2 g3 f c u':=⟨H.a.kept hk (by simp),H.b.kept hk (by simp),H.r.kept hk (by simp),H.k.a0g hk⟩
theorem Two.same{w0:World}{g1 g2 g3:Nat}{f c f':Nat→Nat}{u:World}(H:Two w0 g1 g2 g3 f c u)(hf:fam 5 f=fam 5 f'):Two w0 g1 g2 g3 f' c u:=⟨hf▸H.a,H.b,H.r,H.k⟩
def c8f(F G:Nat→Nat)(i:Nat):Nat:=F i + G i
def c5m(F G:Nat→Nat)(i:Nat):Nat:=F i + (9007199254740988 - G i)
def b1h(F G:Nat→Nat)(i:Nat):Nat:=if i=0 then c5m F G 0 - 72 else c5m F G i
set_option maxHeartbeats 1600000 in
theorem e0n(F G:Nat→Nat)(w:World)(hF:Lim F)(hG:Lim G) :
 Calls Tryz.prog 118 #[el F,el G] w fun e w'=>e= .returned (el (a5l (c8f F G)))∧Kept [] w w':=by
 have hL:=hjd (And.intro hF hG);have hcar:=hjd (fun W=>a6q (c8f F G) W (fun i hi=>by have:=hF i hi;have:=hG i hi;unfold c8f;omega));clear hF hG;go_enter Tryz.func118,Tryz.ntmps118;go_wp2_with (first
  | ((with_reducible refine a0q (o:=⟨some 2,_,_,_,_,_⟩) (v:=el F) rfl (.tmp 0) rfl rfl ?_);intro g1 w1 m1)
  | ((with_reducible refine a0q (o:=⟨some 3,_,_,_,_,_⟩) (v:=el G) rfl (.tmp 1) rfl rfl ?_);intro g2 w2 m2)
  | ((with_reducible refine a0h (o:=⟨some 4,_,_,_,_,_⟩) rfl rfl a1b ?_);intro g3 w3 m3))
 have N:=hjd (show Far3 w g1 g2 g3 from⟨m2.ne m1.blk.lt,m3.ne (m2.kept.lt m1.blk.lt),m3.ne m2.blk.lt,m1.le,Nat.le_trans m1.kept.size m2.le,Nat.le_trans (m1.kept.a0g m2.kept).size m3.le⟩)
 have H0:=hjd (show Two w g1 g2 g3 (mix F (c8f F G) 0) G w3 from
  ⟨by rw [b0e];exact(m1.blk.kept m2.kept (by simp)).kept m3.kept (by simp),m2.blk.kept m3.kept (by simp),m3.blk,(m1.kept.a0g m2.kept).a0g m3.kept⟩)
 clear m1 m2 m3;go_loopg [6] 5 (fun f i wk=>∃k:Nat,k≤5∧f + k=5∧i= .int .i64 k∧Two w g1 g2 g3 (mix F (c8f F G) k) G wk);case atStart=>exact⟨0,Nat.zero_le _,rfl,rfl,H0.out⟩
 case round=>
  obtain⟨k,hk,hf,rfl,hs⟩:=hrel;have H:=hjd hs;clear hs;by_cases hlt:k < 5
  ·have H1:=hjd (H.out.seta N.out);have c1:=Blk.a7y H.out.a k hlt;rw [c1i]at c1;have c2:=Blk.a7y H.out.b k hlt;have z1:=H.out.a.frozen k;have b1:=hL.out.1 k hlt;have b2:=hL.out.2 k hlt;have hs:((F k:Nat):Int) + ((G k:Nat):Int)=((c8f F G k:Nat):Int):=by unfold c8f;omega
   go_wp2_with fail
   refine Txt.a2g (by kernel_rfl) (by kernel_rfl) ?_;go_wp2_with fail;refine⟨rfl,by kernel_rfl,?_⟩;go_wp2_with fail;go_roundg (5 - (k + 1));case measure=>omega
   case rel=>exact⟨k + 1,by omega,by omega,by go_num,H1.out.drew⟩
  ·obtain rfl:k=5:=by omega
   have H3:=hjd (H.out.same (a4s 5 F (c8f F G)));go_wp2_with (first
    | (refine a0d a0c rfl (.tmp 2) rfl rfl H3.out.a rfl ?_)
    | (go_at_call 159;refine(hcar.out _).mono ?_;rintro e w6 ⟨rfl,k6⟩;have H4:=hjd (H3.out.kept k6);clear k6)
    | (refine a0a a0c rfl (.tmp 4) (.tmp 22) rfl rfl rfl H4.out.r rfl rfl (a0u _) ?_;intro w8 b8 k8))
   exact a1m a0c rfl rfl b8 rfl rfl ⟨rfl,H4.out.k.a0r k8 N.out.l3⟩
set_option maxHeartbeats 1600000 in
theorem c6a(F G:Nat→Nat)(w:World)(hF:Lim F)(hG:Lim G) :
 Calls Tryz.prog 116 #[el F,el G] w fun e w'=>e= .returned (el (a5l (b1h F G)))∧Kept [] w w':=by
 have hL:=hjd (And.intro hF hG);have hcar:=hjd (fun W=>a6q (b1h F G) W (fun i hi=>by have:=hF i hi;have:=hF 0 (by omega);unfold b1h c5m;split <;> omega));clear hF hG;go_enter Tryz.func116,Tryz.ntmps116;go_wp2_with (first
  | ((with_reducible refine a0q (o:=⟨some 2,_,_,_,_,_⟩) (v:=el F) rfl (.tmp 0) rfl rfl ?_);intro g1 w1 m1)
  | ((with_reducible refine a0q (o:=⟨some 3,_,_,_,_,_⟩) (v:=el G) rfl (.tmp 1) rfl rfl ?_);intro g2 w2 m2)
  | ((with_reducible refine a0h (o:=⟨some 4,_,_,_,_,_⟩) rfl rfl a1b ?_);intro g3 w3 m3))
 have N:=hjd (show Far3 w g1 g2 g3 from⟨m2.ne m1.blk.lt,m3.ne (m2.kept.lt m1.blk.lt),m3.ne m2.blk.lt,m1.le,Nat.le_trans m1.kept.size m2.le,Nat.le_trans (m1.kept.a0g m2.kept).size m3.le⟩)
 have H0:=hjd (show Two w g1 g2 g3 (mix F (c5m F G) 0) G w3 from
  ⟨by rw [b0e];exact(m1.blk.kept m2.kept (by simp)).kept m3.kept (by simp),m2.blk.kept m3.kept (by simp),m3.blk,(m1.kept.a0g m2.kept).a0g m3.kept⟩)
 clear m1 m2 m3;go_loopg [6] 5 (fun f i wk=>∃k:Nat,k≤5∧f + k=5∧i= .int .i64 k∧Two w g1 g2 g3 (mix F (c5m F G) k) G wk);case atStart=>exact⟨0,Nat.zero_le _,rfl,rfl,H0.out⟩
 case round=>
  obtain⟨k,hk,hf,rfl,hs⟩:=hrel;have H:=hjd hs;clear hs;by_cases hlt:k < 5
  ·have H1:=hjd (H.out.seta N.out);have c1:=Blk.a7y H.out.a k hlt;rw [c1i]at c1;have c2:=Blk.a7y H.out.b k hlt;have z1:=H.out.a.frozen k;have b1:=hL.out.1 k hlt;have b2:=hL.out.2 k hlt;have hs:((F k:Nat):Int) + (9007199254740988 - ((G k:Nat):Int))=((c5m F G k:Nat):Int):=by unfold c5m;omega
   go_wp2_with fail
   refine Txt.a2g (by kernel_rfl) (by kernel_rfl) ?_;go_wp2_with fail;refine⟨rfl,by kernel_rfl,?_⟩;go_wp2_with fail;go_roundg (5 - (k + 1));case measure=>omega
   case rel=>exact⟨k + 1,by omega,by omega,by go_num,H1.out.drew⟩
  ·obtain rfl:k=5:=by omega
   have H2:=hjd (H.out.same (a4s 5 F (c5m F G)));have c1:=Blk.a7y H2.out.a 0 (by omega);have z1:=H2.out.a.frozen 0;have b1:c5m F G 0 < 18446744073709551616∧72≤c5m F G 0:=by have:=hL.out.1 0 (by omega);have:=hL.out.2 0 (by omega);unfold c5m;omega
   have hs:((c5m F G 0:Nat):Int) - 72=((b1h F G 0:Nat):Int):=by unfold b1h;rw [if_pos rfl];omega
   have H3:=hjd (show Two w g1 g2 g3 (b1h F G) G (wr.setCell ⟨g1,0,none⟩ (.int .u64 (b1h F G 0:Nat)))from by
    have hk:Kept [g1] wr (wr.setCell ⟨g1,0,none⟩ (.int .u64 (b1h F G 0:Nat))):=(Kept.refl [g1] wr).setCell (.inl (by simp)) _;have e:fam 5 (fun j=>if j=0 then b1h F G 0 else c5m F G j)=fam 5 (b1h F G):=a5x 5 fun j _=>by
     by_cases h:j=0
     ·subst h;rfl
     ·rw [if_neg h];unfold b1h;rw [if_neg h]
    have ha:=H2.out.a.e6l (v:=fun z:Nat=>Value.int .u64 (z:Int)) 0 (b1h F G 0);rw [e]at ha;exact⟨ha,H2.out.b.kept hk (by simpa using Ne.symm N.out.n12),H2.out.r.kept hk (by simpa using Ne.symm N.out.n13),H2.out.k.a0r hk N.out.l1⟩)
   obtain⟨b11,b12⟩:=b1;go_wp2_with (first
    | (refine a0d a0c rfl (.tmp 2) rfl rfl H3.out.a rfl ?_)
    | (go_at_call 159;refine(hcar.out _).mono ?_;rintro e w6 ⟨rfl,k6⟩;have H4:=hjd (H3.out.kept k6);clear k6)
    | (refine a0a a0c rfl (.tmp 4) (.tmp 29) rfl rfl rfl H4.out.r rfl rfl (a0u _) ?_;intro w8 b8 k8))
   exact a1m a0c rfl rfl b8 rfl rfl ⟨rfl,H4.out.k.a0r k8 N.out.l3⟩
end Go.Proofs.YtdbngnlpafcogaaGreat
namespace Go.Proofs.YtdbngnlpafcogaaGreat
open Go.RowKit Go.Mem
theorem d9q(F G:Nat→Nat):fv (c8f F G)=fv F + fv G:=by
 unfold fv c8f;omega
theorem d8l(F G:Nat→Nat)(_:Lim F)(hG:Lim G):fv (b1h F G) + fv G=fv F + 4 * PP:=by
 have g0:=hG 0 (by omega);have g1:=hG 1 (by omega);have g2:=hG 2 (by omega);have g3:=hG 3 (by omega);have g4:=hG 4 (by omega);unfold fv;rw [show b1h F G 0=F 0 + (9007199254740988 - G 0) - 72 from rfl,show b1h F G 1=F 1 + (9007199254740988 - G 1)from rfl,show b1h F G 2=F 2 + (9007199254740988 - G 2)from rfl,show b1h F G 3=F 3 + (9007199254740988 - G 3)from rfl,show b1h F G 4=F 4 + (9007199254740988 - G 4)from rfl];unfold PP;omega
structure Rep (F:Nat→Nat) (x:Nat):Prop where
 lim:Lim F
 val:fv F % PP=x % PP
theorem Rep.add{F G:Nat→Nat}{x y:Nat}(h:Rep F x)(h2:Rep G y):Rep (a5l (c8f F G)) (x + y):=by
 refine⟨b0f _ fun i hi=>by have:=h.lim i hi;have:=h2.lim i hi;unfold c8f;omega,?_⟩;rw [b2k,d9q,Nat.add_mod,h.val,h2.val,←Nat.add_mod]
theorem Rep.sub{F G:Nat→Nat}{x y z:Nat}(h:Rep F x)(h2:Rep G y)(hz:(z + y) % PP=x % PP):Rep (a5l (b1h F G)) z:=by
 refine⟨b0f _ fun i hi=>by have:=h.lim i hi;have:=h.lim 0 (by omega);unfold b1h c5m;split <;> omega,?_⟩;rw [b2k];have e:=d8l F G h.lim h2.lim;have e2:(fv (b1h F G) + y) % PP=(z + y) % PP:=by
  have:(fv (b1h F G) + fv G) % PP=fv F % PP:=by rw [e,Nat.add_mul_mod_self_right]
  rw [Nat.add_mod,h2.val,←Nat.add_mod]at this;rw [this,h.val,hz]
 have hp:=a3l;have e3:(fv (b1h F G) + y + (PP - y % PP)) % PP=(z + y + (PP - y % PP)) % PP:=by
  rw [Nat.add_mod,e2,←Nat.add_mod]
 have hy:=Nat.mod_lt y hp;have hd:=Nat.div_add_mod y PP;have a1:∀q,q + y + (PP - y % PP)=q + PP * (y / PP + 1):=fun q=>by rw [Nat.mul_add];omega
 rw [a1,a1,Nat.add_mul_mod_self_left,Nat.add_mul_mod_self_left]at e3;exact e3
section
variable {P:Program} {w:World} {ops:Array Oper} {rest:List Oper} {o:Oper} {a:Act} {Q:Exit→Act→World→Prop} {t e:TypeId} {n:Nat}
theorem b0g(hgd:Region.wanted o (yielded ops a.tmps)=true)(i j:Nat)(x y:Operand)(ho:o.op= .build t #[(i,x),(j,y)]){v u:Value}(hx:a.eval x=v)(hy:a.eval y=u){cs:Array Value}(hb:P.built t [(i,v),(j,u)]=some cs)(h:wpList P ops Q rest (a.put o.dst (.agg cs)) w):wpList P ops Q (o :: rest) a w:=by
 have e:(#[(i,x),(j,y)].map fun(p:Nat × Operand)=>(p.1,a.eval p.2)).toList= [(i,v),(j,u)]:=by simp [hx,hy]
 refine a1u hgd fun _ hK=>wp_build t #[(i,x),(j,y)] ho (by rw [e,hb];rfl) (hK _ _ ?_)
 rw [e,hb];exact h
end
def smL(v i:Nat):Nat:=if i=0 then v % 2251799813685248 else if i=1 then v / 2251799813685248 else 0
theorem c1u(v:Nat):fv (smL v)=v:=by
 unfold fv;rw [show smL v 0=v % 2251799813685248 from rfl,show smL v 1=v / 2251799813685248 from rfl,show smL v 2=0 from rfl,show smL v 3=0 from rfl,show smL v 4=0 from rfl];omega
theorem d6p(x y:Nat):Tryz.prog.built 68 [(0,.int .u64 (x:Int)),(1,.int .u64 (y:Int))]=some #[.int .u64 (x:Int),.int .u64 (y:Int),.int .u64 0,.int .u64 0,.int .u64 0]:=by kernel_rfl
theorem c0e(f:Nat→Nat):Tryz.prog.built 70 [(0,el f)]=some (uv (fam 5 f)).toArray:=by kernel_rfl
theorem e0i(v:Nat):(uv (fam 5 (smL v))).toArray= #[.int .u64 ((v % 2251799813685248:Nat):Int),.int .u64 ((v / 2251799813685248:Nat):Int),.int .u64 0,.int .u64 0,.int .u64 0]:=rfl
set_option maxHeartbeats 800000 in
theorem b5t(v:Nat)(w:World)(hv:v < 18446744073709551616) :
 Calls Tryz.prog 114 #[.int .u64 v] w fun e w'=>e= .returned (el (smL v))∧Kept [] w w':=by
 obtain⟨p,hp⟩:∃p,p=v % 2251799813685248:=⟨_,rfl⟩;obtain⟨q,hq⟩:∃q,q=v / 2251799813685248:=⟨_,rfl⟩;have hm:bits .and .u64 ((v:Nat):Int) 2251799813685247=((p:Nat):Int):=by rw [hp];exact b7i v hv
 have hd:((v:Nat):Int) / 2251799813685248=((q:Nat):Int):=by rw [hq];omega
 have hb:=d6p p q;have he:=e0i v;rw [←hp,←hq]at he;rw [←he]at hb;have hb2:=hjd hb;clear hb he hp hq hv;go_enter Tryz.func114,Tryz.ntmps114;go_wp2_with (first
  | ((with_reducible refine a0h (o:=⟨some 2,_,_,_,_,_⟩) rfl rfl a1b ?_);intro g1 w1 m1)
  | (refine b0g rfl 0 1 (.tmp 4) (.tmp 6) rfl rfl rfl hb2.out ?_)
  | (refine a3x rfl 0 (.tmp 7) rfl rfl (c0e _) ?_)
  | (refine a0a a0c rfl (.tmp 2) (.tmp 8) rfl rfl rfl m1.blk rfl rfl (a0u _) ?_;intro w8 b8 k8))
 exact a1m a0c rfl rfl b8 rfl rfl ⟨rfl,m1.kept.a0r k8 m1.le⟩
end Go.Proofs.YtdbngnlpafcogaaGreat
namespace Go.Proofs.YtdbngnlpafcogaaGreat
open Go.RowKit Go.Mem
def wrd(x i:Nat):Nat:=x / 2 ^ (64 * i) % 18446744073709551616
theorem a6d(x i:Nat):wrd x i < 18446744073709551616:=Nat.mod_lt _ (by decide)
def leV:List UInt8→Nat
 | []=>0
 | a :: l=>a.toNat + 256 * leV l
theorem b4g:∀l:List UInt8,leV l < 256 ^ l.length
 | []=>by simp [leV]
 | a :: l=>by
   have h:=b4g l;have ha:=a.toNat_lt;simp only [leV,List.length_cons,Nat.pow_succ];omega
theorem b0h:∀(l:List UInt8) (b:UInt8),leV (l ++ [b])=leV l + b.toNat * 256 ^ l.length
 | [],b=>by simp [leV]
 | a :: l,b=>by
   simp only [List.cons_append,leV,b0h l b,List.length_cons,Nat.pow_succ];rw [Nat.mul_add,Nat.add_assoc];congr 2;rw [Nat.mul_comm 256,Nat.mul_assoc]
theorem b1r(l:List UInt8)(k:Nat)(h:k < l.length):leV (l.take (k + 1))=leV (l.take k) + l[k].toNat * 2 ^ (8 * k):=by
 rw [List.take_succ_eq_append_getElem h,b0h,List.length_take,Nat.min_eq_left (by omega),show(256:Nat)=2 ^ 8 from rfl,←Nat.pow_mul]
theorem a6p(l:List UInt8)(k:Nat)(h:k≤l.length):leV (l.take k) < 2 ^ (8 * k):=by
 have:=b4g (l.take k)
 rwa [List.length_take,Nat.min_eq_left h,show(256:Nat)=2 ^ 8 from rfl,←Nat.pow_mul]at this
def le(x n:Nat):List UInt8:=(List.range n).map fun i=>UInt8.ofNat (x / 2 ^ (8 * i) % 256)
theorem a0x(x n:Nat):(le x n).length=n:=by simp [le]
theorem b3z(x n i:Nat)(h:i < n):(le x n)[i]'(by rw [a0x];exact h)=UInt8.ofNat (x / 2 ^ (8 * i) % 256):=by simp [le]
theorem a6z:∀(n x:Nat),leV (le x n)=x % 2 ^ (8 * n)
 | 0,x=>by simp [le,leV,Nat.mod_one]
 | n + 1,x=>by
   have h:=a6z n (x / 256);have e:le x (n + 1)=UInt8.ofNat (x % 256) :: le (x / 256) n:=by
    unfold le;rw [List.range_succ_eq_map,List.map_cons,List.map_map];congr 1
    ·simp
    apply List.map_congr_left;intro i _;simp only [Function.comp_apply];rw [show 8 * (i.succ)=8 + 8 * i from by omega,Nat.pow_add,←Nat.div_div_eq_div_mul]
   have hm:(UInt8.ofNat (x % 256)).toNat=x % 256:=by rw [UInt8.toNat_ofNat'];omega
   rw [e,leV,h,hm,show 8 * (n + 1)=8 + 8 * n from by omega,Nat.pow_add];show _=x % (256 * _);rw [Nat.mod_mul]
theorem b8p:∀l:List UInt8,le (leV l) l.length=l
 | []=>rfl
 | a :: l=>by
   have h:=b8p l;have ha:=a.toNat_lt;unfold le;rw [List.length_cons,List.range_succ_eq_map,List.map_cons,List.map_map];congr 1
   ·have:leV (a :: l) / 2 ^ (8 * 0) % 256=a.toNat:=by simp only [leV,Nat.mul_zero,Nat.pow_zero,Nat.div_one];omega
    rw [this];simp
   ·conv=>rhs;rw [←h]
    unfold le;apply List.map_congr_left;intro i _;simp only [Function.comp_apply];rw [show 8 * (i.succ)=8 + 8 * i from by omega,Nat.pow_add,←Nat.div_div_eq_div_mul];congr 3;show(a.toNat + 256 * leV l) / 256=leV l;omega
theorem e1s{x y n:Nat}(hx:x < 2 ^ (8 * n))(hy:y < 2 ^ (8 * n)):(le x n == le y n)=decide (x=y):=by
 rw [Bool.eq_iff_iff,beq_iff_eq,decide_eq_true_iff];constructor
 ·intro h;have:=congrArg leV h
  rwa [a6z,a6z,Nat.mod_eq_of_lt hx,Nat.mod_eq_of_lt hy]at this
 ·rintro rfl;rfl
theorem b6a(x i:Nat):wrd x (i / 8) / 2 ^ (8 * (i % 8)) % 256=x / 2 ^ (8 * i) % 256:=by
 unfold wrd;have e:8 * i=64 * (i / 8) + 8 * (i % 8):=by omega
 rw [e,Nat.pow_add,←Nat.div_div_eq_div_mul];generalize x / 2 ^ (64 * (i / 8))=U;have hr:i % 8=0∨i % 8=1∨i % 8=2∨i % 8=3∨i % 8=4∨i % 8=5∨i % 8=6∨i % 8=7:=by omega
 rcases hr with h | h | h | h | h | h | h | h <;> rw [h] <;> simp only [Nat.reduceMul,Nat.reducePow] <;> omega
theorem c5q(x i:Nat)(h:i < 32):(((wrd x (i / 8):Nat):Int) / 2 ^ (8 * (i % 8)) % 256)=(((le x 32)[i]'(by rw [a0x];exact h)).toNat:Int):=by
 rw [b3z x 32 i h,UInt8.toNat_ofNat',←b6a];have:((wrd x (i / 8):Nat):Int) / 2 ^ (8 * (i % 8))=((wrd x (i / 8) / 2 ^ (8 * (i % 8)):Nat):Int):=by simp
 rw [this];omega
theorem b5k(l:List UInt8):leV l < 2 ^ (8 * l.length):=by
 have:=b4g l
 rwa [show(256:Nat)=2 ^ 8 from rfl,←Nat.pow_mul]at this
end Go.Proofs.YtdbngnlpafcogaaGreat
namespace Go.Proofs.YtdbngnlpafcogaaGreat
open Go.RowKit Go.Mem
def qq(A:Nat→Nat):Nat→Nat
 | 0=>(A 0 + 19) / 2251799813685248
 | k + 1=>(A (k + 1) + qq A k) / 2251799813685248
def a3a(A:Nat→Nat)(i:Nat):Nat:=if i=0 then A 0 + 19 * qq A 4 else A i
def tc(B:Nat→Nat):Nat→Nat
 | 0=>B 0
 | k + 1=>B (k + 1) + tc B k / 2251799813685248
def nm(B:Nat→Nat)(k j:Nat):Nat:=if j < k then tc B j % 2251799813685248 else if j=k then tc B k else B j
def c0a(A:Nat→Nat)(j:Nat):Nat:=tc (a3a A) j % 2251799813685248
def a4k:Nat:=57896044618658097711785492504343953926634992332820282019728792003956564819968
theorem qq_val(A:Nat→Nat):qq A 4=(fv A + 19) / a4k:=by
 unfold fv a4k;rw [show qq A 4=(A 4 + (A 3 + (A 2 + (A 1 + (A 0 + 19) / 2251799813685248) / 2251799813685248) / 2251799813685248) / 2251799813685248) / 2251799813685248 from rfl];omega
theorem e0b(A:Nat→Nat):fv (c0a A)=(fv A + 19 * qq A 4) % a4k:=by
 have h0:tc (a3a A) 0=A 0 + 19 * qq A 4:=rfl;have h1:tc (a3a A) 1=A 1 + tc (a3a A) 0 / 2251799813685248:=rfl;have h2:tc (a3a A) 2=A 2 + tc (a3a A) 1 / 2251799813685248:=rfl;have h3:tc (a3a A) 3=A 3 + tc (a3a A) 2 / 2251799813685248:=rfl;have h4:tc (a3a A) 4=A 4 + tc (a3a A) 3 / 2251799813685248:=rfl;unfold fv a4k c0a;generalize tc (a3a A) 0=t0 at *;generalize tc (a3a A) 1=t1 at *;generalize tc (a3a A) 2=t2 at *;generalize tc (a3a A) 3=t3 at *;generalize tc (a3a A) 4=t4 at *;omega
structure Low2 (A:Nat→Nat):Prop where
 a0:A 0 < 2251799813685248 + 19
 ai:∀i,1≤i→i < 5→A i≤2251799813685248
theorem low2(F:Nat→Nat)(h:Lim F):Low2 (a5l (a5l F)):=by
 have k1:∀i,i < 5→a5l F i < 2251799813685248 + 19:=by
  intro i hi;have h4:=h 4 (by omega);have hi2:=h i hi;have hi3:=h (i - 1) (by omega);unfold a5l loL hiL;split <;> omega
 have h4:=k1 4 (by omega);have h0:=k1 0 (by omega);generalize a5l F=G at *;constructor
 ·rw [show a5l G 0=G 0 % 2251799813685248 + 19 * (G 4 / 2251799813685248)from rfl];omega
 ·intro i h1 hi;have hi2:=k1 i hi;have hi3:=k1 (i - 1) (by omega);unfold a5l loL hiL;rw [if_neg (by omega)];omega
theorem e7t(F:Nat→Nat)(h:Lim F):fv (c0a (a5l (a5l F)))=fv F % PP:=by
 have hl:=low2 F h;have e:=e0b (a5l (a5l F));rw [qq_val]at e;have hm:fv (a5l (a5l F)) % PP=fv F % PP:=by rw [b2k,b2k]
 have hb:fv (a5l (a5l F)) < 2 * PP:=by
  have:=hl.a0;have a1:=hl.ai 1 (by omega) (by omega);have a2:=hl.ai 2 (by omega) (by omega);have a3:=hl.ai 3 (by omega) (by omega);have a4:=hl.ai 4 (by omega) (by omega);unfold fv PP;omega
 rw [e,←hm];clear e hm hl h;generalize fv (a5l (a5l F))=v at *;unfold PP at *;unfold a4k;by_cases hv:v < 57896044618658097711785492504343953926634992332820282019728792003956564819949
 ·have hq:(v + 19) / 57896044618658097711785492504343953926634992332820282019728792003956564819968=0:=by omega
  rw [hq,Nat.mod_eq_of_lt hv];omega
 ·have hq:(v + 19) / 57896044618658097711785492504343953926634992332820282019728792003956564819968=1:=by omega
  rw [hq];omega
theorem a8k(A:Nat→Nat)(i:Nat):c0a A i < 2251799813685248:=Nat.mod_lt _ (by decide)
theorem b2r(R:Nat→Nat)(h:∀i,R i < 2251799813685248) :
 wrd (fv R) 0=(R 0 + R 1 * 2251799813685248) % 18446744073709551616∧wrd (fv R) 1=R 1 / 8192 + R 2 * 274877906944 % 18446744073709551616∧
 wrd (fv R) 2=R 2 / 67108864 + R 3 * 33554432 % 18446744073709551616∧wrd (fv R) 3=R 3 / 549755813888 + R 4 * 4096:=by
 have h0:=h 0;have h1:=h 1;have h2:=h 2;have h3:=h 3;have h4:=h 4;unfold wrd fv;rw [show 2 ^ (64 * 0)=1 from rfl,show 2 ^ (64 * 1)=18446744073709551616 from rfl,show 2 ^ (64 * 2)=340282366920938463463374607431768211456 from rfl,show 2 ^ (64 * 3)=6277101735386680763835789423207666416102355444464034512896 from rfl];generalize R 0=r0 at *;generalize R 1=r1 at *;generalize R 2=r2 at *;generalize R 3=r3 at *;generalize R 4=r4 at *;refine⟨?_,?_,?_,?_⟩ <;> omega
end Go.Proofs.YtdbngnlpafcogaaGreat
namespace Go.Proofs.YtdbngnlpafcogaaGreat
open Go.RowKit Go.Mem
theorem d2s(a c s P:Nat)(hP:P=2 ^ s)(ha:a < P)(h1:a < 18446744073709551616)(hc:P * c < 18446744073709551616):bits .or .u64 (a:Int) ((P * c:Nat):Int)=((a + P * c:Nat):Int):=by
 rw [bits_or_u64_nat a (P * c) h1 hc];subst hP;rw [Nat.or_comm,←Nat.two_pow_add_eq_or_of_lt ha,Nat.add_comm]
theorem b4n(x:Nat):IntKind.u64.wrap (x:Int)=((x % 18446744073709551616:Nat):Int):=by
 simp [IntKind.wrap,IntKind.bits,IntKind.signed]
theorem word0(R:Nat→Nat)(h:∀i,R i < 2251799813685248):bits .or .u64 ((R 0:Nat):Int) (IntKind.u64.wrap (((R 1:Nat):Int) * 2251799813685248))=((wrd (fv R) 0:Nat):Int):=by
 have h0:=h 0
 rw [(b2r R h).1,show(((R 1:Nat):Int) * 2251799813685248)=((R 1 * 2251799813685248:Nat):Int)from by omega,b4n,
  show R 1 * 2251799813685248 % 18446744073709551616=2251799813685248 * (R 1 % 8192)from by omega,d2s (R 0) (R 1 % 8192) 51 _ rfl h0 (by omega) (by omega)]
 omega
theorem word1(R:Nat→Nat)(h:∀i,R i < 2251799813685248):bits .or .u64 (((R 1:Nat):Int) / 8192) (IntKind.u64.wrap (((R 2:Nat):Int) * 274877906944))=((wrd (fv R) 1:Nat):Int):=by
 have h0:=h 1
 rw [(b2r R h).2.1,show(((R 2:Nat):Int) * 274877906944)=((R 2 * 274877906944:Nat):Int)from by omega,b4n,show((R 1:Nat):Int) / 8192=((R 1 / 8192:Nat):Int)from by omega,
  show R 2 * 274877906944 % 18446744073709551616=274877906944 * (R 2 % 67108864)from by omega,d2s (R 1 / 8192) (R 2 % 67108864) 38 _ rfl (by omega) (by omega) (by omega)]
theorem word2(R:Nat→Nat)(h:∀i,R i < 2251799813685248):bits .or .u64 (((R 2:Nat):Int) / 67108864) (IntKind.u64.wrap (((R 3:Nat):Int) * 33554432))=((wrd (fv R) 2:Nat):Int):=by
 have h0:=h 2
 rw [(b2r R h).2.2.1,show(((R 3:Nat):Int) * 33554432)=((R 3 * 33554432:Nat):Int)from by omega,b4n,show((R 2:Nat):Int) / 67108864=((R 2 / 67108864:Nat):Int)from by omega,
  show R 3 * 33554432 % 18446744073709551616=33554432 * (R 3 % 549755813888)from by omega,d2s (R 2 / 67108864) (R 3 % 549755813888) 25 _ rfl (by omega) (by omega) (by omega)]
theorem word3(R:Nat→Nat)(h:∀i,R i < 2251799813685248):bits .or .u64 (((R 3:Nat):Int) / 549755813888) (((R 4:Nat):Int) * 4096)=((wrd (fv R) 3:Nat):Int):=by
 have h0:=h 3;have h4:=h 4
 rw [(b2r R h).2.2.2,show(((R 4:Nat):Int) * 4096)=((4096 * R 4:Nat):Int)from by omega,show((R 3:Nat):Int) / 549755813888=((R 3 / 549755813888:Nat):Int)from by omega,
  d2s (R 3 / 549755813888) (R 4) 12 _ rfl (by omega) (by omega) (by omega)]
 omega
end Go.Proofs.YtdbngnlpafcogaaGreat
namespace Go.Proofs.YtdbngnlpafcogaaGreat
open Go.RowKit Go.Mem
theorem a2u:ArrT Tryz.prog 22 5 32:=⟨Tryz.underlying22,by kernel_rfl⟩
theorem a8l:(Tryz.prog.info? 22).map (·.zero)=some (some (ab (a0m 32))):=by kernel_rfl
theorem b6w:ArrT Tryz.prog 76 67 4:=⟨Tryz.underlying76,by kernel_rfl⟩
theorem d0t:(Tryz.prog.info? 76).map (·.zero)=some (some (.agg #[.int .u64 0,.int .u64 0,.int .u64 0,.int .u64 0])):=by kernel_rfl
structure Ha (w0:World) (g1 g2:Nat) (f:Nat→Nat) (u:World):Prop where
 a:Blk u g1 70 (uv (fam 5 f)).toArray
 r:Blk u g2 22 (bv (a0m 32)).toArray
 k:Kept [] w0 u
structure Far2 (w0:World) (g1 g2:Nat):Prop where
 n12:g1≠g2
 l1:w0.heap.size≤g1
 l2:w0.heap.size≤g2
theorem Ha.kept{w0:World}{g1 g2:Nat}{f:Nat→Nat}{u u':World}(H:Ha w0 g1 g2 f u)(hk:Kept [] u u'):Ha w0 g1 g2 f u':=⟨H.a.kept hk (by simp),H.r.kept hk (by simp),H.k.a0g hk⟩
theorem Ha.b3i{w0:World}{g1 g2:Nat}{f f':Nat→Nat}{u:World}(H:Ha w0 g1 g2 f u)(n:Far2 w0 g1 g2)(i x:Nat)(e:fam 5 (fun j=>if j=i then x else f j)=fam 5 f'):Ha w0 g1 g2 f' (u.setCell ⟨g1,i,none⟩ (.int .u64 (x:Nat))):=
 have hk:Kept [g1] u (u.setCell ⟨g1,i,none⟩ (.int .u64 (x:Nat))):=(Kept.refl [g1] u).setCell (.inl (by simp)) _
 ⟨e▸H.a.e6l (v:=fun z:Nat=>Value.int .u64 (z:Int)) i x,H.r.kept hk (by simpa using Ne.symm n.n12),H.k.a0r hk n.l1⟩
theorem Ha.same{w0:World}{g1 g2:Nat}{f f':Nat→Nat}{u:World}(H:Ha w0 g1 g2 f u)(e:fam 5 f=fam 5 f'):Ha w0 g1 g2 f' u:=⟨e▸H.a,H.r,H.k⟩
theorem e0a{A:Nat→Nat}(h:Low2 A):∀k,k < 5→qq A k≤1
 | 0,_=>by have:=h.a0;show(A 0 + 19) / 2251799813685248≤1;omega
 | k + 1,hk=>by have:=e0a h k (by omega);have:=h.ai (k + 1) (by omega) hk;show(A (k + 1) + qq A k) / 2251799813685248≤1;omega
theorem b8t(w:World)(t:TypeId)(cs:Array Value)(n:Nat)(h:n=w.heap.size):Blk (w.alloc (.cells cs t)) n t cs:=by subst h;exact Blk.new w t cs
theorem Ha.drew{w0:World}{g1 g2:Nat}{f:Nat→Nat}{u:World}(H:Ha w0 g1 g2 f u):Ha w0 g1 g2 f u.drew:=⟨H.a,H.r,H.k.drew⟩
theorem e6o{A:Nat→Nat}(h:Low2 A):∀k,k < 5→tc (a3a A) k < 2251799813685248 + 64
 | 0,_=>by have:=h.a0;have:=e0a h 4 (by omega);show A 0 + 19 * qq A 4 < _;omega
 | k + 1,hk=>by
   have:=e6o h k (by omega);have:=h.ai (k + 1) (by omega) hk;show A (k + 1) + tc (a3a A) k / 2251799813685248 < _;omega
theorem e6v(B:Nat→Nat)(k:Nat):fam 5 (fun j=>if j=k then tc B k % 2251799813685248 else if j=k + 1 then tc B (k + 1)else nm B k j)=fam 5 (nm B (k + 1)):=a5x 5 fun j _=>by
 unfold nm;by_cases h1:j=k
 ·rw [if_pos h1,if_pos (by omega),h1]
 ·rw [if_neg h1];by_cases h2:j=k + 1
  ·rw [if_pos h2,if_neg (by omega),if_pos h2]
  ·rw [if_neg h2];by_cases h3:j < k
   ·rw [if_pos h3,if_pos (by omega)]
   ·rw [if_neg h3,if_neg h1,if_neg (by omega),if_neg h2]
theorem e6b(B:Nat→Nat):fam 5 B=fam 5 (nm B 0):=a5x 5 fun j _=>by
 unfold nm;rw [if_neg (by omega)];by_cases h:j=0
 ·rw [if_pos h,h];rfl
 ·rw [if_neg h]
theorem nm_end(A:Nat→Nat):fam 5 (fun j=>if j=4 then tc (a3a A) 4 % 2251799813685248 else nm (a3a A) 4 j)=fam 5 (c0a A):=a5x 5 fun j hj=>by
 unfold c0a nm;by_cases h:j=4
 ·rw [if_pos h,h]
 ·rw [if_neg h,if_pos (by omega)]
theorem d8e(A:Nat→Nat):fam 5 (fun j=>if j=0 then a3a A 0 else A j)=fam 5 (a3a A):=a5x 5 fun j _=>by
 by_cases h:j=0
 ·subst h;rfl
 ·rw [if_neg h];unfold a3a;rw [if_neg h]
set_option maxHeartbeats 3200000 in
theorem a5c(F:Nat→Nat)(w:World)(hF:Lim F) :
 Calls Tryz.prog 100 #[el F] w fun e w'=>e= .returned (ab (le (fv F % PP) 32))∧Kept [] w w':=by
 have hc1:=hjd (fun W=>a6q F W (fun i hi=>by have:=hF i hi;omega));have hc2:=hjd (fun W=>a6q (a5l F) W (fun i hi=>by have:=b0f F (fun i hi=>by have:=hF i hi;omega) i hi;omega));have hlow:=low2 F hF;have hend:=e7t F hF;obtain⟨X,hX⟩:∃X,X=fv F % PP:=⟨_,rfl⟩;rw [←hX]at hend ⊢;obtain⟨A,hA⟩:∃A,A=a5l (a5l F):=⟨_,rfl⟩;rw [←hA]at hc2 hlow hend;have L:=hjd hlow;have E:=hjd hend;clear hF hX hA hlow hend;go_enter Tryz.func100,Tryz.ntmps100;go_wp2_with (first
  | ((with_reducible refine a0q (o:=⟨some 1,_,_,_,_,_⟩) (v:=el F) rfl (.tmp 0) rfl rfl ?_);intro g1 w1 m1)
  | ((with_reducible refine a0h (o:=⟨some 2,_,_,_,_,_⟩) rfl rfl a8l ?_);intro g2 w2 m2;have N:=hjd (show Far2 w g1 g2 from⟨m2.ne m1.blk.lt,m1.le,Nat.le_trans m1.kept.size m2.le⟩);have H:=hjd (show Ha w g1 g2 F w2 from⟨m1.blk.kept m2.kept (by simp),m2.blk,m1.kept.a0g m2.kept⟩);clear m1 m2)
  | (refine a0d a0c rfl (.tmp 1) rfl rfl H.out.a rfl ?_)
  | (go_at_call 159;(with_reducible refine(hc1.out _).mono ?_);rintro e w3 ⟨rfl,k3⟩;have H:=hjd (H.out.kept k3);clear k3)
  | (go_at_call 159;(with_reducible refine(hc2.out _).mono ?_);rintro e w4 ⟨rfl,k4⟩;have H:=hjd (H.out.kept k4);clear k4)
  | (refine a0a a0c rfl (.tmp 1) (.tmp 11) rfl rfl rfl H.out.a rfl rfl (a0u _) ?_;intro w5 b5 k5;have H1:=hjd (show Ha w g1 g2 A w5 from⟨b5,H.out.r.kept k5 (by simpa using Ne.symm N.out.n12),H.out.k.a0r k5 N.out.l1⟩);have c1:=Blk.a7y H1.out.a 0 (by omega);have b0:=L.out.a0;have hq0:(((A 0:Nat):Int) + 19) / 2251799813685248=((qq A 0:Nat):Int):=by(show _=(((A 0 + 19) / 2251799813685248:Nat):Int));omega))
 clear c1 b5 k5 hq0 b0;go_loopg [4,3] 4 (fun f i q wk=>∃k:Nat,k≤4∧f + k=4∧i= .int .i64 ((k:Int) + 1)∧q= .int .u64 (qq A k:Nat)∧Ha w g1 g2 A wk);case atStart=>exact⟨0,by omega,rfl,rfl,rfl,H1.out⟩
 case round=>
  obtain⟨k,hk,hf,rfl,rfl,hs⟩:=hrel;have H:=hjd hs;clear hs;by_cases hlt:k < 4
  ·have c1:=Blk.a7y H.out.a (k + 1) (by omega);have b1:=L.out.ai (k + 1) (by omega) (by omega);have b2:=e0a L.out k (by omega);have hq:(((A (k + 1):Nat):Int) + ((qq A k:Nat):Int)) / 2251799813685248=((qq A (k + 1):Nat):Int):=by(show _=(((A (k + 1) + qq A k) / 2251799813685248:Nat):Int));omega
   go_wp2_with fail
   go_roundg (4 - (k + 1));case measure=>omega
   case rel=>exact⟨k + 1,by omega,by omega,by go_num,rfl,H.out⟩
  ·obtain rfl:k=4:=by omega
   have c1:=Blk.a7y H.out.a 0 (by omega);have z1:=H.out.a.frozen 0;have b0:=L.out.a0;have b4:=e0a L.out 4 (by omega);have hl:((A 0:Nat):Int) + 19 * ((qq A 4:Nat):Int)=((a3a A 0:Nat):Int):=by unfold a3a;rw [if_pos rfl];omega
   have H1:=hjd ((H.out.b3i N.out 0 (a3a A 0) (d8e A)).same (e6b (a3a A)));go_wp2_with fail;obtain⟨wq,hwq⟩:∃wq:World,wq=wr.setCell ⟨g1,0,none⟩ (.int .u64 (a3a A 0:Nat)):=⟨_,rfl⟩;rw [←hwq]at H1 ⊢;clear hwq c1 z1 b0 b4 hl H;go_loopg [36] 4 (fun f i wk=>∃k:Nat,k≤4∧f + k=4∧i= .int .i64 k∧Ha w g1 g2 (nm (a3a A) k) wk);case atStart=>exact⟨0,by omega,rfl,rfl,H1.out⟩
   case round=>
    obtain⟨k,hk,hf,rfl,hs⟩:=hrel;have H:=hjd hs;clear hs;by_cases hlt:k < 4
    ·have H2:=hjd (H.out.b3i N.out (k + 1) (tc (a3a A) (k + 1)) rfl);have H3:=hjd (H2.out.b3i N.out k (tc (a3a A) k % 2251799813685248) (e6v (a3a A) k));have c1:=Blk.a7y H.out.a (k + 1) (by omega);rw [show nm (a3a A) k (k + 1)=A (k + 1)from by unfold nm a3a;rw [if_neg (by omega),if_neg (by omega),if_neg (by omega)]]at c1;have c2:=Blk.a7y H.out.a k (by omega);rw [show nm (a3a A) k k=tc (a3a A) k from by unfold nm;rw [if_neg (by omega),if_pos rfl]]at c2;have c3:=Blk.a7y H2.out.a k (by omega);rw [if_neg (by omega),show nm (a3a A) k k=tc (a3a A) k from by unfold nm;rw [if_neg (by omega),if_pos rfl]]at c3;have z1:=H.out.a.frozen (k + 1);have z2:=H2.out.a.frozen k;have b1:=L.out.ai (k + 1) (by omega) (by omega);have b2:=e6o L.out k (by omega);obtain⟨p,hp⟩:∃p,p=tc (a3a A) k % 2251799813685248:=⟨_,rfl⟩;have ha:bits .and .u64 ((tc (a3a A) k:Nat):Int) 2251799813685247=((p:Nat):Int):=by rw [hp];exact b7i _ (by omega)
     rw [←hp]at H3;have hq:((A (k + 1):Nat):Int) + ((tc (a3a A) k:Nat):Int) / 2251799813685248=((tc (a3a A) (k + 1):Nat):Int):=by(show _=((A (k + 1) + tc (a3a A) k / 2251799813685248:Nat):Int));omega
     clear hp;go_wp2_with fail;refine Txt.a2g (by kernel_rfl) (by kernel_rfl) ?_;go_wp2_with fail;refine⟨rfl,by kernel_rfl,?_⟩;go_wp2_with fail;go_roundg (4 - (k + 1));case measure=>omega
     case rel=>exact⟨k + 1,by omega,by omega,by go_num,H3.out.drew⟩
    ·obtain rfl:k=4:=by omega
     have H2:=hjd (H.out.b3i N.out 4 (tc (a3a A) 4 % 2251799813685248) (nm_end A));have c1:=Blk.a7y H.out.a 4 (by omega);rw [show nm (a3a A) 4 4=tc (a3a A) 4 from rfl]at c1;have z1:=H.out.a.frozen 4;have b2:=e6o L.out 4 (by omega);have ha:bits .and .u64 ((tc (a3a A) 4:Nat):Int) 2251799813685247=((c0a A 4:Nat):Int):=b7i _ (by omega);have e4:tc (a3a A) 4 % 2251799813685248=c0a A 4:=rfl;rw [e4]at H2;clear e4;have d0:=Blk.a7y H2.out.a 0 (by omega);have d1:=Blk.a7y H2.out.a 1 (by omega);have d2:=Blk.a7y H2.out.a 2 (by omega);have d3:=Blk.a7y H2.out.a 3 (by omega);have d4:=Blk.a7y H2.out.a 4 (by omega);have r0:=a8k A 0;have r1:=a8k A 1;have r2:=a8k A 2;have r3:=a8k A 3;have r4:=a8k A 4;have q0:=word0 (c0a A) (a8k A);have q1:=word1 (c0a A) (a8k A);have q2:=word2 (c0a A) (a8k A);have q3:=word3 (c0a A) (a8k A);rw [E.out]at q0 q1 q2 q3;have hsz:(wr.setCell ⟨g1,4,none⟩ (.int .u64 (c0a A 4:Nat))).heap.size=wr.heap.size:=by simp
     have N7:=hjd (show wr.heap.size≠wr.heap.size + 1∧g2≠wr.heap.size + 1∧w.heap.size≤wr.heap.size + 1 from
      ⟨by omega,by have:=H2.out.r.lt;omega,by have:=H2.out.k.size;omega⟩)
     have N71:=hjd (show g1≠wr.heap.size + 1 from by have:=H2.out.a.lt;omega);have H3:=hjd (fun(o1 o2:Obj)=>(show Ha w g1 g2 (c0a A) (((wr.setCell ⟨g1,4,none⟩ (.int .u64 (c0a A 4:Nat))).alloc o1).alloc o2)from⟨(H2.out.a.alloc _).alloc _,(H2.out.r.alloc _).alloc _,(H2.out.k.alloc _).alloc _⟩));have B6:=hjd (fun(o2:Obj)=>(b8t (wr.setCell ⟨g1,4,none⟩ (.int .u64 (c0a A 4:Nat))) 76 (uv (fam 4 (wrd X))).toArray wr.heap.size hsz.symm).alloc o2);have B7:=hjd (fun(o1:Obj)=>b8t ((wr.setCell ⟨g1,4,none⟩ (.int .u64 (c0a A 4:Nat))).alloc o1) 22 (bv (a0m 32)).toArray (wr.heap.size + 1) (by simp));clear hsz;go_wp2_with fail;obtain⟨wz,hwz⟩:∃wz:World,wz=wr:=⟨_,rfl⟩;subst hwz;go_loopg [102] 32 (fun f i wk=>∃k:Nat,k≤32∧f + k=32∧i= .int .i64 k∧Blk wk (wz.heap.size + 1) 22 (bv (a5y (a0m 32) 0 ((le X 32).take k))).toArray∧Blk wk wz.heap.size 76 (uv (fam 4 (wrd X))).toArray∧Ha w g1 g2 (c0a A) wk);case atStart=>exact⟨0,Nat.zero_le _,rfl,rfl,B7.out _,B6.out _,H3.out _ _⟩
     case round=>
      obtain⟨k,hk,hf,rfl,hb,hw6,hs⟩:=hrel;have H:=hjd (And.intro hw6 hs);clear hw6 hs;by_cases hlt:k < 32
      ·have c1:=Blk.a7y H.out.1 (k / 8) (by omega);have hfz:=hb.frozen k;have c3:=hb.bget k (by rw [a8f _ _ _ (by simp [a0x];omega)];simpa using hlt);have hby:=c5q X k hlt;have hst:=hb.b3i k (a1z ((le X 32)[k]'(by rw [a0x];exact hlt)));rw [a9y (a0m 32) (le X 32) k (by rw [a0x];exact hlt) (by simp [a0x])]at hst;have hst2:=hjd hst;have kk:=(Kept.refl [wz.heap.size + 1] wr).setCell (p:=⟨wz.heap.size + 1,k,none⟩) (.inl (by simp)) (a1z ((le X 32)[k]'(by rw [a0x];exact hlt)));have hk2:=hjd (And.intro (H.out.1.kept kk (by simp)) (show Ha w g1 g2 (c0a A) _ from⟨H.out.2.a.kept kk (by simpa using N71.out),H.out.2.r.kept kk (by simpa using N7.out.2.1),H.out.2.k.a0r kk N7.out.2.2⟩));unfold a1z at hst2 hk2;clear hst hb kk;go_wp2_with fail;go_roundg (32 - (k + 1));case measure=>omega
       case rel=>exact⟨k + 1,by omega,by omega,by go_num,hst2.out,hk2.out.1,hk2.out.2⟩
      ·obtain rfl:k=32:=by omega
       have hb2:=hjd hb;clear hb;rw [List.take_of_length_le (by rw [a0x];exact Nat.le_refl _),c0d _ _ (by rw [a0x];rfl)]at hb2;go_wp2_with (first
        | (refine a0t a2u rfl (.tmp 7) rfl rfl hb2.out (by simp [a0x]) ?_)
        | (refine a1p a2u rfl (.tmp 2) (.tmp 118) rfl rfl rfl H.out.2.r rfl (by simp [a0x]) (a3o _) ?_;intro w9 b9 k9))
       exact a6l a2u rfl rfl b9 (by simp [a0x]) rfl ⟨rfl,H.out.2.k.a0r k9 N.out.l2⟩
end Go.Proofs.YtdbngnlpafcogaaGreat
namespace Go.Proofs.YtdbngnlpafcogaaGreat
open Go.RowKit
namespace Mul64
theorem divN(a:Nat):(a:Int) / 4294967296=((a / 4294967296:Nat):Int):=by omega
theorem mulN(a b:Nat):(a:Int) * (b:Int)=((a * b:Nat):Int):=(Int.natCast_mul a b).symm
theorem addN(a b:Nat):(a:Int) + (b:Int)=((a + b:Nat):Int):=(Int.natCast_add a b).symm
theorem c2t(a:Nat)(ha:a < 18446744073709551616):IntKind.u64.wrap (a:Int)=(a:Int):=by rw [IntKind.wrap_u64];omega
theorem wrapM(a:Nat):IntKind.u64.wrap (a:Int)=((a % 18446744073709551616:Nat):Int):=by rw [IntKind.wrap_u64];omega
theorem e6j(a:Nat)(ha:a < 18446744073709551616):bits .and .u64 (a:Int) 4294967295=((a % 4294967296:Nat):Int):=by
 rw [and_low32 _ (by omega) (by omega)];omega
end Mul64
set_option maxHeartbeats 1000000 in
theorem c3c(x y:Nat)(hx:x < 18446744073709551616)(hy:y < 18446744073709551616)(w:World) :
 Calls Tryz.prog 105 #[.int .u64 x,.int .u64 y] w fun e w'=>e= .returned (.tuple #[.int .u64 ((x * y / 18446744073709551616:Nat):Int),.int .u64 ((x * y % 18446744073709551616:Nat):Int)])∧w=w':=by
 obtain⟨bd,bt,bw,hhi⟩:=Lib.mul64_hi x y hx hy;have ba:=Lib.half_mul_le (a:=x / 4294967296) (b:=y / 4294967296) (by omega) (by omega);have bb:=Lib.half_mul_le (a:=x / 4294967296) (b:=y % 4294967296) (by omega) (by omega);have bc:=Lib.half_mul_le (a:=x % 4294967296) (b:=y / 4294967296) (by omega) (by omega);have ba':x / 4294967296 * (y / 4294967296) < 18446744073709551616:=by omega
 have bb':x / 4294967296 * (y % 4294967296) < 18446744073709551616:=by omega
 have bc':x % 4294967296 * (y / 4294967296) < 18446744073709551616:=by omega
 have bh1:x / 4294967296 * (y / 4294967296) + (x / 4294967296 * (y % 4294967296) + x % 4294967296 * (y % 4294967296) / 4294967296) / 4294967296 < 18446744073709551616:=by omega
 have bh:x / 4294967296 * (y / 4294967296) + (x / 4294967296 * (y % 4294967296) + x % 4294967296 * (y % 4294967296) / 4294967296) / 4294967296 + ((x / 4294967296 * (y % 4294967296) + x % 4294967296 * (y % 4294967296) / 4294967296) % 4294967296 + x % 4294967296 * (y / 4294967296)) / 4294967296 < 18446744073709551616:=by omega
 have H:=hjd (And.intro bd (And.intro bt (And.intro bw (And.intro hhi (And.intro ba' (And.intro bb' (And.intro bc' (And.intro bh1 bh))))))));clear bd bt bw hhi ba bb bc ba' bb' bc' bh1 bh;go_enter Tryz.func105,Tryz.ntmps105
 go_wp2
 obtain⟨bd,bt,bw,hhi,ba',bb',bc',bh1,bh⟩:=H.out;simp only [Mul64.e6j x hx,Mul64.e6j y hy,Mul64.divN,Mul64.mulN,Mul64.addN,Mul64.c2t _ bd,Mul64.c2t _ bb',Mul64.c2t _ bt,Mul64.e6j _ bt,Mul64.c2t _ bc',Mul64.c2t _ bw,Mul64.c2t _ ba',Mul64.c2t _ bh1,Mul64.c2t _ bh,Mul64.wrapM (x * y)];rw [hhi];go_ret2;exact⟨rfl,rfl⟩
end Go.Proofs.YtdbngnlpafcogaaGreat
namespace Go.Proofs.YtdbngnlpafcogaaGreat
open Go.RowKit Go.Mem
def h64(x:Nat):Nat:=x / 18446744073709551616
def l64(x:Nat):Nat:=x % 18446744073709551616
theorem e2q(x:Nat):l64 x < 18446744073709551616:=Nat.mod_lt _ (by decide)
abbrev prs(x:Nat):List Nat:=[h64 x,l64 x]
abbrev pr(x:Nat):Value:=.agg (uv (prs x)).toArray
theorem a1l:RowT Tryz.prog 209 2:=⟨⟨_,Tryz.underlying209,rfl⟩,by kernel_rfl⟩
theorem a8o:(Tryz.prog.info? 209).map (·.zero)=some (some (pr 0)):=by kernel_rfl
theorem c7p(x:Nat):Tryz.prog.built 209 [(0,.int .u64 (h64 x:Int)),(1,.int .u64 (l64 x:Int))]=some (uv (prs x)).toArray:=by kernel_rfl
theorem c8c(a b:Nat)(ha:a < 18446744073709551616)(hb:b < 18446744073709551616)(w:World) :
 Calls Tryz.prog 105 #[.int .u64 a,.int .u64 b] w fun e w'=>e= .returned (.tuple #[.int .u64 (h64 (a * b):Nat),.int .u64 (l64 (a * b):Nat)])∧Kept [] w w':=
 (c3c a b ha hb w).mono (by rintro e w' ⟨rfl,rfl⟩;exact⟨rfl,Kept.refl _ _⟩)
theorem a7x(x y c:Nat)(hc:c≤1)(w:World):(callFunc 103 #[.int .u64 x,.int .u64 y,.int .u64 c]).run Tryz.prog w =
 .ok (.value (.tuple #[.int .u64 ((x + y + c) % 18446744073709551616:Nat),.int .u64 ((x + y + c) / 18446744073709551616:Nat)])) w:=by
 rw [run_callFunc_extern (e:=add64Entry) Tryz.func103 (by kernel_rfl) (by kernel_rfl) (by kernel_rfl) (by kernel_rfl)];rw [run_add64 _ _ _ (by omega) (by omega) (by omega) (by omega)];simp [Result.andThen]
set_option maxHeartbeats 800000 in
theorem b5u(a b:Nat)(ha:a < 18446744073709551616)(hb:b < 18446744073709551616)(w:World) :
 Calls Tryz.prog 156 #[.int .u64 a,.int .u64 b] w fun e w'=>e= .returned (pr (a * b))∧Kept [] w w':=by
 have hm:=hjd (c8c a b ha hb);obtain⟨x,hx⟩:∃x,x=a * b:=⟨_,rfl⟩;rw [←hx]at hm ⊢;clear hx ha hb;go_enter Tryz.func156,Tryz.ntmps156;go_wp2_with (first
  | ((with_reducible refine a0h (o:=⟨some 4,_,_,_,_,_⟩) rfl rfl a8o ?_);intro g1 w1 m1)
  | (go_at_call 105;refine(hm.out _).mono ?_;rintro e w2 ⟨rfl,k2⟩;have B:=hjd (And.intro (m1.blk.kept k2 (by simp)) (And.intro (m1.kept.a0g k2) m1.le));clear m1 k2)
  | (refine b0g rfl 0 1 (.tmp 13) (.tmp 14) rfl rfl rfl (c7p _) ?_)
  | (refine a0a a1l rfl (.tmp 4) (.tmp 15) rfl rfl rfl B.out.1 rfl rfl (a2e _) ?_;intro w8 b8 k8))
 exact a1m a1l rfl rfl b8 rfl rfl ⟨rfl,B.out.2.1.a0r k8 B.out.2.2⟩
theorem e5n(x y:Nat):(l64 y + l64 x + 0) % 18446744073709551616=l64 (x + y):=by unfold l64;omega
theorem e3y(x y:Nat)(h:x + y < 340282366920938463463374607431768211456):(h64 y + h64 x + (l64 y + l64 x + 0) / 18446744073709551616) % 18446744073709551616=h64 (x + y):=by unfold l64 h64;omega
theorem plus_c(x y:Nat):(l64 y + l64 x + 0) / 18446744073709551616≤1:=by unfold l64;omega
def pc(x y:Nat):Nat:=(l64 y + l64 x + 0) / 18446744073709551616
set_option maxHeartbeats 1600000 in
theorem a9x(x a b:Nat)(ha:a < 18446744073709551616)(hb:b < 18446744073709551616)(hs:x + a * b < 340282366920938463463374607431768211456)(w:World) :
 Calls Tryz.prog 157 #[pr x,.int .u64 a,.int .u64 b] w fun e w'=>e= .returned (pr (x + a * b))∧Kept [] w w':=by
 have hm:=hjd (c8c a b ha hb);obtain⟨y,hy⟩:∃y,y=a * b:=⟨_,rfl⟩;rw [←hy]at hm hs ⊢;have a1:∀W,(callFunc 103 #[.int .u64 (l64 y:Nat),.int .u64 (l64 x:Nat),.int .u64 0]).run Tryz.prog W= .ok (.value (.tuple #[.int .u64 (l64 (x + y):Nat),.int .u64 (pc x y:Nat)])) W:=fun W=>by
  have:=a7x (l64 y) (l64 x) 0 (by omega) W;rw [e5n,show(l64 y + l64 x + 0) / 18446744073709551616=pc x y from rfl]at this;exact this
 have a2:=fun W=>a7x (h64 y) (h64 x) (pc x y) (plus_c x y) W
 rw [show(h64 y + h64 x + pc x y) % 18446744073709551616=h64 (x + y)from e3y x y hs]at a2;obtain⟨z,hz⟩:∃z,z=x + y:=⟨_,rfl⟩;rw [←hz]at a1 a2 ⊢;clear hy ha hb hs hz;go_enter Tryz.func157,Tryz.ntmps157;go_wp2_with (first
  | ((with_reducible refine a0q (o:=⟨some 3,_,_,_,_,_⟩) (v:=pr x) rfl (.tmp 0) rfl rfl ?_);intro g1 w1 m1)
  | ((with_reducible refine a0h (o:=⟨some 6,_,_,_,_,_⟩) rfl rfl a8o ?_);intro g2 w2 m2)
  | (go_at_call 105;refine(hm.out _).mono ?_;rintro e w3 ⟨rfl,k3⟩;have B:=hjd (And.intro (m2.blk.kept k3 (by simp)) (And.intro ((m1.kept.a0g m2.kept).a0g k3) (Nat.le_trans m1.kept.size m2.le)));have c0:w3.cell? ⟨g1,0,none⟩=some (.int .u64 (h64 x:Nat)):=Blk.uget (l:=prs x) ((m1.blk.kept m2.kept (by simp)).kept k3 (by simp)) 0 (by simp);have c1:w3.cell? ⟨g1,1,none⟩=some (.int .u64 (l64 x:Nat)):=Blk.uget (l:=prs x) ((m1.blk.kept m2.kept (by simp)).kept k3 (by simp)) 1 (by simp);clear m1 m2 k3)
  | (refine b0g rfl 0 1 (.tmp 31) (.tmp 32) rfl rfl rfl (c7p _) ?_)
  | (refine a0a a1l rfl (.tmp 6) (.tmp 33) rfl rfl rfl B.out.1 rfl rfl (a2e _) ?_;intro w8 b8 k8))
 exact a1m a1l rfl rfl b8 rfl rfl ⟨rfl,B.out.2.1.a0r k8 B.out.2.2⟩
end Go.Proofs.YtdbngnlpafcogaaGreat
namespace Go.Proofs.YtdbngnlpafcogaaGreat
open Go.RowKit Go.Mem
def b1g(x:Nat):Nat:=x / 2251799813685248
theorem d3n(x:Nat)(h:x < 41538374868278621028243970633760768):bits .or .u64 (((h64 x:Nat):Int) * 8192) (((l64 x:Nat):Int) / 2251799813685248)=((b1g x:Nat):Int):=by
 have h1:h64 x < 2251799813685248:=by unfold h64;omega
 have h2:=e2q x;have e:b1g x=8192 * h64 x + l64 x / 2251799813685248:=by unfold b1g h64 l64;omega
 have h3:l64 x / 2251799813685248 < 2 ^ 13:=by omega
 rw [show((h64 x:Nat):Int) * 8192=((8192 * h64 x:Nat):Int)from by omega,show((l64 x:Nat):Int) / 2251799813685248=((l64 x / 2251799813685248:Nat):Int)from by omega,
  bits_or_u64_nat _ _ (by omega) (by omega),e,show(8192:Nat)=2 ^ 13 from rfl,Nat.two_pow_add_eq_or_of_lt h3]
set_option maxHeartbeats 800000 in
theorem b2t(x:Nat)(h:x < 41538374868278621028243970633760768)(w:World) :
 Calls Tryz.prog 173 #[pr x] w fun e w'=>e= .returned (.int .u64 (b1g x:Nat))∧Kept [] w w':=by
 have hw:=d3n x h;have h1:h64 x < 2251799813685248:=by unfold h64;omega
 clear h;go_enter Tryz.func173,Tryz.ntmps173;go_wp2_with ((with_reducible refine a0q (o:=⟨some 1,_,_,_,_,_⟩) (v:=pr x) rfl (.tmp 0) rfl rfl ?_);intro g1 w1 m1;have c0:w1.cell? ⟨g1,0,none⟩=some (.int .u64 (h64 x:Nat)):=Blk.uget (l:=prs x) m1.blk 0 (by simp);have c1:w1.cell? ⟨g1,1,none⟩=some (.int .u64 (l64 x:Nat)):=Blk.uget (l:=prs x) m1.blk 1 (by simp);have M:=hjd m1.kept;clear m1);go_ret;exact⟨rfl,M.out⟩
end Go.Proofs.YtdbngnlpafcogaaGreat
namespace Go.Proofs.YtdbngnlpafcogaaGreat
open Go.RowKit Go.Mem
def b4d(x:Nat):Nat:=x % 2251799813685248
theorem b6q(x:Nat):bits .and .u64 ((l64 x:Nat):Int) 2251799813685247=((b4d x:Nat):Int):=by
 rw [b7i (l64 x) (e2q x)];unfold l64 b4d;omega
def gaL(t:Nat→Nat)(i:Nat):Nat:=if i=0 then b4d (t 0) + 19 * b1g (t 4)else b4d (t i) + b1g (t (i - 1))
structure Fit (t:Nat→Nat):Prop where
 lo:∀i,i < 4→t i < 2596148429267413814265248164610048
 top:t 4 < 162259276829213363391578010288128
theorem Fit.word{t:Nat→Nat}(h:Fit t)(i:Nat)(hi:i < 5):gaL t i < 18446744073709551616:=by
 have l0:∀i,b4d (t i) < 2251799813685248:=fun i=>Nat.mod_lt _ (by decide)
 have:=h.top;unfold gaL b1g;split
 ·have:=l0 0;omega
 ·have:=l0 i;have:=h.lo (i - 1) (by omega);omega
theorem e7l(t:Nat→Nat):fv (gaL t) + PP * b1g (t 4)=fv t:=by
 unfold fv;rw [show gaL t 0=b4d (t 0) + 19 * b1g (t 4)from rfl,show gaL t 1=b4d (t 1) + b1g (t 0)from rfl,show gaL t 2=b4d (t 2) + b1g (t 1)from rfl,show gaL t 3=b4d (t 3) + b1g (t 2)from rfl,show gaL t 4=b4d (t 4) + b1g (t 3)from rfl];unfold PP b4d b1g;omega
theorem d6b{t:Nat→Nat}(h:Fit t):Lim (a5l (gaL t)):=b0f _ h.word
theorem ga_mod(t:Nat→Nat):fv (a5l (gaL t)) % PP=fv t % PP:=by
 rw [b2k,←e7l t,Nat.add_mul_mod_self_left]
def b0m(F G:Nat→Nat)(i:Nat):Nat:=
 if i=0 then F 0 * G 0 + 19 * F 1 * G 4 + 19 * F 2 * G 3 + 19 * F 3 * G 2 + 19 * F 4 * G 1
 else if i=1 then F 0 * G 1 + F 1 * G 0 + 19 * F 2 * G 4 + 19 * F 3 * G 3 + 19 * F 4 * G 2
 else if i=2 then F 0 * G 2 + F 1 * G 1 + F 2 * G 0 + 19 * F 3 * G 4 + 19 * F 4 * G 3
 else if i=3 then F 0 * G 3 + F 1 * G 2 + F 2 * G 1 + F 3 * G 0 + 19 * F 4 * G 4
 else F 0 * G 4 + F 1 * G 3 + F 2 * G 2 + F 3 * G 1 + F 4 * G 0
theorem d8k(F G:Nat→Nat):fv F * fv G=fv (b0m F G) + PP * ((F 1 * G 4 + F 2 * G 3 + F 3 * G 2 + F 4 * G 1) + 2251799813685248 * (F 2 * G 4 + F 3 * G 3 + F 4 * G 2) + 5070602400912917605986812821504 * (F 3 * G 4 + F 4 * G 3) + 11417981541647679048466287755595961091061972992 * (F 4 * G 4)):=by
 unfold fv
 rw [show b0m F G 0=F 0 * G 0 + 19 * F 1 * G 4 + 19 * F 2 * G 3 + 19 * F 3 * G 2 + 19 * F 4 * G 1 from rfl,
  show b0m F G 1=F 0 * G 1 + F 1 * G 0 + 19 * F 2 * G 4 + 19 * F 3 * G 3 + 19 * F 4 * G 2 from rfl,
  show b0m F G 2=F 0 * G 2 + F 1 * G 1 + F 2 * G 0 + 19 * F 3 * G 4 + 19 * F 4 * G 3 from rfl,
  show b0m F G 3=F 0 * G 3 + F 1 * G 2 + F 2 * G 1 + F 3 * G 0 + 19 * F 4 * G 4 from rfl,
  show b0m F G 4=F 0 * G 4 + F 1 * G 3 + F 2 * G 2 + F 3 * G 1 + F 4 * G 0 from rfl]
 unfold PP;generalize F 0=a0,F 1=a1,F 2=a2,F 3=a3,F 4=a4,G 0=b0,G 1=b1,G 2=b2,G 3=b3,G 4=b4
 grind
theorem e4g{F G:Nat→Nat}(hF:Lim F)(hG:Lim G)(i j:Nat)(hi:i < 5)(hj:j < 5):F i * G j < 20282409603651670423947251286016:=
 Nat.lt_of_le_of_lt (Nat.mul_le_mul (Nat.le_sub_one_of_lt (hF i hi)) (Nat.le_sub_one_of_lt (hG j hj))) (by decide)
theorem b1s{F G:Nat→Nat}(hF:Lim F)(hG:Lim G):Fit (b0m F G):=by
 have p:=e4g hF hG;have p00:=p 0 0 (by omega) (by omega);have p01:=p 0 1 (by omega) (by omega);have p02:=p 0 2 (by omega) (by omega);have p03:=p 0 3 (by omega) (by omega);have p04:=p 0 4 (by omega) (by omega);have p10:=p 1 0 (by omega) (by omega);have p11:=p 1 1 (by omega) (by omega);have p12:=p 1 2 (by omega) (by omega);have p13:=p 1 3 (by omega) (by omega);have p14:=p 1 4 (by omega) (by omega);have p20:=p 2 0 (by omega) (by omega);have p21:=p 2 1 (by omega) (by omega);have p22:=p 2 2 (by omega) (by omega);have p23:=p 2 3 (by omega) (by omega);have p24:=p 2 4 (by omega) (by omega);have p30:=p 3 0 (by omega) (by omega);have p31:=p 3 1 (by omega) (by omega);have p32:=p 3 2 (by omega) (by omega);have p33:=p 3 3 (by omega) (by omega);have p34:=p 3 4 (by omega) (by omega);have p40:=p 4 0 (by omega) (by omega);have p41:=p 4 1 (by omega) (by omega);have p42:=p 4 2 (by omega) (by omega);have p43:=p 4 3 (by omega) (by omega);have p44:=p 4 4 (by omega) (by omega);constructor
 ·intro i hi;rcases(show i=0∨i=1∨i=2∨i=3 by omega)with rfl | rfl | rfl | rfl <;> simp only [b0m,Nat.mul_assoc,if_true,if_false,Nat.reduceEqDiff,reduceCtorEq] <;> omega
 ·simp only [b0m,Nat.mul_assoc,Nat.reduceEqDiff,reduceIte,reduceCtorEq];omega
theorem Rep.mul{F G:Nat→Nat}{x y:Nat}(h:Rep F x)(h2:Rep G y):Rep (a5l (gaL (b0m F G))) (x * y):=by
 refine⟨d6b (b1s h.lim h2.lim),?_⟩;have e:=d8k F G;rw [ga_mod,←Nat.add_mul_mod_self_left (fv (b0m F G)) PP,←e,Nat.mul_mod,h.val,h2.val,←Nat.mul_mod]
end Go.Proofs.YtdbngnlpafcogaaGreat
namespace Go.Proofs.YtdbngnlpafcogaaGreat
open Go.RowKit Go.Mem
structure Gat (w0:World) (g5 g6 g7 g8 g9 g10 x0 x1 x2 x3 x4:Nat) (u:World):Prop where
 t0:Blk u g5 209 (uv (prs x0)).toArray
 t1:Blk u g6 209 (uv (prs x1)).toArray
 t2:Blk u g7 209 (uv (prs x2)).toArray
 t3:Blk u g8 209 (uv (prs x3)).toArray
 t4:Blk u g9 209 (uv (prs x4)).toArray
 r:Blk u g10 70 (uv (fam 5 a0j)).toArray
 k:Kept [] w0 u
theorem Gat.kept{w0:World}{g5 g6 g7 g8 g9 g10 x0 x1 x2 x3 x4:Nat}{u u':World}(h:Gat w0 g5 g6 g7 g8 g9 g10 x0 x1 x2 x3 x4 u)(hk:Kept [] u u'):Gat w0 g5 g6 g7 g8 g9 g10 x0 x1 x2 x3 x4 u':=
 ⟨h.t0.kept hk (by simp),h.t1.kept hk (by simp),h.t2.kept hk (by simp),h.t3.kept hk (by simp),h.t4.kept hk (by simp),h.r.kept hk (by simp),h.k.a0g hk⟩
set_option maxHeartbeats 1600000 in
theorem b4e(t:Nat→Nat)(w:World)(ht:Fit t) :
 Calls Tryz.prog 158 #[pr (t 0),pr (t 1),pr (t 2),pr (t 3),pr (t 4)] w fun e w'=>e= .returned (el (a5l (gaL t)))∧Kept [] w w':=by
 have hcar:=hjd (fun W=>a6q (gaL t) W ht.word);have l0:∀i,i < 4→t i < 41538374868278621028243970633760768:=fun i hi=>by have:=ht.lo i hi;omega
 have b0:=l0 0 (by omega);have b1:=l0 1 (by omega);have b2:=l0 2 (by omega);have b3:=l0 3 (by omega);have b4:t 4 < 41538374868278621028243970633760768:=by have:=ht.top;omega
 obtain⟨R,hR⟩:∃R,R=gaL t:=⟨_,rfl⟩;rw [←hR]at hcar ⊢;have q0:b4d (t 0) < 2251799813685248∧b4d (t 1) < 2251799813685248∧b4d (t 2) < 2251799813685248∧b4d (t 3) < 2251799813685248∧b4d (t 4) < 2251799813685248:=⟨Nat.mod_lt _ (by decide),Nat.mod_lt _ (by decide),Nat.mod_lt _ (by decide),Nat.mod_lt _ (by decide),Nat.mod_lt _ (by decide)⟩;have q1:b1g (t 0) < 1152921504606846976∧b1g (t 1) < 1152921504606846976∧b1g (t 2) < 1152921504606846976∧b1g (t 3) < 1152921504606846976∧b1g (t 4) < 72057594037927936:=by
  have:=ht.lo 0 (by omega);have:=ht.lo 1 (by omega);have:=ht.lo 2 (by omega);have:=ht.lo 3 (by omega);have:=ht.top;unfold b1g;omega
 have s0:((b4d (t 0):Nat):Int) + 19 * ((b1g (t 4):Nat):Int)=((R 0:Nat):Int):=by rw [hR];show _=((b4d (t 0) + 19 * b1g (t 4):Nat):Int);omega
 have s1:((b4d (t 1):Nat):Int) + ((b1g (t 0):Nat):Int)=((R 1:Nat):Int):=by rw [hR];show _=((b4d (t 1) + b1g (t 0):Nat):Int);omega
 have s2:((b4d (t 2):Nat):Int) + ((b1g (t 1):Nat):Int)=((R 2:Nat):Int):=by rw [hR];show _=((b4d (t 2) + b1g (t 1):Nat):Int);omega
 have s3:((b4d (t 3):Nat):Int) + ((b1g (t 2):Nat):Int)=((R 3:Nat):Int):=by rw [hR];show _=((b4d (t 3) + b1g (t 2):Nat):Int);omega
 have s4:((b4d (t 4):Nat):Int) + ((b1g (t 3):Nat):Int)=((R 4:Nat):Int):=by rw [hR];show _=((b4d (t 4) + b1g (t 3):Nat):Int);omega
 clear ht l0 hR;obtain⟨x0,hx0⟩:∃x,x=t 0:=⟨_,rfl⟩;obtain⟨x1,hx1⟩:∃x,x=t 1:=⟨_,rfl⟩;obtain⟨x2,hx2⟩:∃x,x=t 2:=⟨_,rfl⟩;obtain⟨x3,hx3⟩:∃x,x=t 3:=⟨_,rfl⟩;obtain⟨x4,hx4⟩:∃x,x=t 4:=⟨_,rfl⟩;rw [←hx0]at b0 q0 q1 s0 s1 ⊢;rw [←hx1]at b1 q0 q1 s1 s2 ⊢;rw [←hx2]at b2 q0 q1 s2 s3 ⊢;rw [←hx3]at b3 q0 q1 s3 s4 ⊢;rw [←hx4]at b4 q0 q1 s4 s0 ⊢;have o0:=hjd (b2t x0 b0);have o1:=hjd (b2t x1 b1);have o2:=hjd (b2t x2 b2);have o3:=hjd (b2t x3 b3);have o4:=hjd (b2t x4 b4);clear b0 b1 b2 b3 b4;have S0:=hjd (And.intro s0 (And.intro s1 (And.intro s2 (And.intro s3 s4))));have Q0:=hjd (And.intro q0 q1);clear hx0 hx1 hx2 hx3 hx4 s0 s1 s2 s3 s4 q0 q1;go_enter Tryz.func158,Tryz.ntmps158;go_wp2_with (first
  | ((with_reducible refine a0q (o:=⟨some 5,_,_,_,_,_⟩) (v:=pr x0) rfl (.tmp 0) rfl rfl ?_);intro g5 w1 m1)
  | ((with_reducible refine a0q (o:=⟨some 6,_,_,_,_,_⟩) (v:=pr x1) rfl (.tmp 1) rfl rfl ?_);intro g6 w2 m2)
  | ((with_reducible refine a0q (o:=⟨some 7,_,_,_,_,_⟩) (v:=pr x2) rfl (.tmp 2) rfl rfl ?_);intro g7 w3 m3)
  | ((with_reducible refine a0q (o:=⟨some 8,_,_,_,_,_⟩) (v:=pr x3) rfl (.tmp 3) rfl rfl ?_);intro g8 w4 m4)
  | ((with_reducible refine a0q (o:=⟨some 9,_,_,_,_,_⟩) (v:=pr x4) rfl (.tmp 4) rfl rfl ?_);intro g9 w5 m5)
  | ((with_reducible refine a0h (o:=⟨some 10,_,_,_,_,_⟩) rfl rfl a1b ?_);intro g10 w6 m6))
 have k56:=m5.kept.a0g m6.kept;have k46:=m4.kept.a0g k56;have k36:=m3.kept.a0g k46;have k26:=m2.kept.a0g k36;have H:=hjd (show Gat w g5 g6 g7 g8 g9 g10 x0 x1 x2 x3 x4 w6 from⟨m1.blk.kept k26 (by simp),m2.blk.kept k36 (by simp),m3.blk.kept k46 (by simp),m4.blk.kept k56 (by simp),m5.blk.kept m6.kept (by simp),m6.blk,m1.kept.a0g k26⟩);have l10:=hjd (show w.heap.size≤g10 from Nat.le_trans ((((m1.kept.a0g m2.kept).a0g m3.kept).a0g m4.kept).a0g m5.kept).size m6.le);clear m1 m2 m3 m4 m5 m6 k56 k46 k36 k26;refine Txt.a1k [0,2,4,6,8] (Gat w g5 g6 g7 g8 g9 g10 x0 x1 x2 x3 x4) [[_,_],[_,_],[_,_],[_,_],[_,_],[_,_,_,_,_]] (by kernel_rfl) (by kernel_rfl) rfl (H.out.kept (Kept.refl [] _).drew) (Txt.a0e ?_);have H:=hjd (H.out.kept (Kept.refl [] w6).drew);go_wp2_with (first
  | (with_reducible refine a0d (o:=⟨some 16,_,_,_,_,_⟩) a1l rfl (.tmp 5) rfl rfl H.out.t0 rfl ?_)
  | (go_at_call 173;refine(o0.out _).mono ?_;rintro e v ⟨rfl,kk⟩;have H:=hjd (H.out.kept kk);clear kk))
 refine⟨rfl,H.out,Txt.a0e ?_⟩;go_wp2_with (first
  | (with_reducible refine a0d (o:=⟨some 18,_,_,_,_,_⟩) a1l rfl (.tmp 6) rfl rfl H.out.t1 rfl ?_)
  | (go_at_call 173;refine(o1.out _).mono ?_;rintro e v ⟨rfl,kk⟩;have H:=hjd (H.out.kept kk);clear kk))
 refine⟨rfl,H.out,Txt.a0e ?_⟩;go_wp2_with (first
  | (with_reducible refine a0d (o:=⟨some 20,_,_,_,_,_⟩) a1l rfl (.tmp 7) rfl rfl H.out.t2 rfl ?_)
  | (go_at_call 173;refine(o2.out _).mono ?_;rintro e v ⟨rfl,kk⟩;have H:=hjd (H.out.kept kk);clear kk))
 refine⟨rfl,H.out,Txt.a0e ?_⟩;go_wp2_with (first
  | (with_reducible refine a0d (o:=⟨some 22,_,_,_,_,_⟩) a1l rfl (.tmp 8) rfl rfl H.out.t3 rfl ?_)
  | (go_at_call 173;refine(o3.out _).mono ?_;rintro e v ⟨rfl,kk⟩;have H:=hjd (H.out.kept kk);clear kk))
 refine⟨rfl,H.out,Txt.a0e ?_⟩;go_wp2_with (first
  | (with_reducible refine a0d (o:=⟨some 24,_,_,_,_,_⟩) a1l rfl (.tmp 9) rfl rfl H.out.t4 rfl ?_)
  | (go_at_call 173;refine(o4.out _).mono ?_;rintro e v ⟨rfl,kk⟩;have H:=hjd (H.out.kept kk);clear kk))
 refine⟨rfl,H.out,Txt.a0e ?_⟩;go_wp2_with fail;refine⟨rfl,H.out,Txt.a0w ⟨⟨by kernel_rfl,?_⟩,?_⟩⟩
 ·intro j hj o ho _;have hj2:j=0∨j=2∨j=4∨j=6∨j=8:=by simpa using hj
  rcases hj2 with rfl | rfl | rfl | rfl | rfl <;> cases ho
  ·exact⟨16,rfl,fun u hu=>a1c a1l (.tmp 5) rfl rfl hu.t0 rfl⟩
  ·exact⟨18,rfl,fun u hu=>a1c a1l (.tmp 6) rfl rfl hu.t1 rfl⟩
  ·exact⟨20,rfl,fun u hu=>a1c a1l (.tmp 7) rfl rfl hu.t2 rfl⟩
  ·exact⟨22,rfl,fun u hu=>a1c a1l (.tmp 8) rfl rfl hu.t3 rfl⟩
  ·exact⟨24,rfl,fun u hu=>a1c a1l (.tmp 9) rfl rfl hu.t4 rfl⟩
 obtain⟨s0,s1,s2,s3,s4⟩:=S0.out;obtain⟨⟨q00,q01,q02,q03,q04⟩,q10,q11,q12,q13,q14⟩:=Q0.out;have c0:v.cell? ⟨g5,1,none⟩=some (.int .u64 (l64 x0:Nat)):=Blk.uget (l:=prs x0) H.out.t0 1 (by simp);have c1:v.cell? ⟨g6,1,none⟩=some (.int .u64 (l64 x1:Nat)):=Blk.uget (l:=prs x1) H.out.t1 1 (by simp);have c2:v.cell? ⟨g7,1,none⟩=some (.int .u64 (l64 x2:Nat)):=Blk.uget (l:=prs x2) H.out.t2 1 (by simp);have c3:v.cell? ⟨g8,1,none⟩=some (.int .u64 (l64 x3:Nat)):=Blk.uget (l:=prs x3) H.out.t3 1 (by simp);have c4:v.cell? ⟨g9,1,none⟩=some (.int .u64 (l64 x4:Nat)):=Blk.uget (l:=prs x4) H.out.t4 1 (by simp);have w0:=b6q x0;have w1:=b6q x1;have w2:=b6q x2;have w3:=b6q x3;have w4:=b6q x4;go_wp2_with (first
  | (with_reducible refine a3x (o:=⟨some 53,_,_,_,_,_⟩) rfl 0 (.tmp 52) rfl rfl (c0e R) ?_)
  | (go_at_call 159;refine(hcar.out _).mono ?_;rintro e w6 ⟨rfl,k6⟩;have H:=hjd (H.out.kept k6);clear k6)
  | (refine a0a a0c rfl (.tmp 10) (.tmp 54) rfl rfl rfl H.out.r rfl rfl (a0u _) ?_;intro w8 b8 k8))
 exact a1m a0c rfl rfl b8 rfl rfl ⟨rfl,H.out.k.a0r k8 l10.out⟩
end Go.Proofs.YtdbngnlpafcogaaGreat
namespace Go.Proofs.YtdbngnlpafcogaaGreat
open Go.RowKit Go.Mem
abbrev PrC(a b s:Nat):Prop:=∀W,Calls Tryz.prog 156 #[.int .u64 a,.int .u64 b] W fun e w'=>e= .returned (pr s)∧Kept [] W w'
abbrev PlC(x a b s:Nat):Prop:=∀W,Calls Tryz.prog 157 #[pr x,.int .u64 a,.int .u64 b] W fun e w'=>e= .returned (pr s)∧Kept [] W w'
theorem a7f(x:Nat):pr x=Value.agg #[.int .u64 (h64 x:Nat),.int .u64 (l64 x:Nat)]:=rfl
abbrev GaC(T0 T1 T2 T3 T4:Nat)(R:Nat→Nat):Prop:=∀W,Calls Tryz.prog 158 #[.agg #[.int .u64 (h64 T0:Nat),.int .u64 (l64 T0:Nat)],.agg #[.int .u64 (h64 T1:Nat),.int .u64 (l64 T1:Nat)],.agg #[.int .u64 (h64 T2:Nat),.int .u64 (l64 T2:Nat)],.agg #[.int .u64 (h64 T3:Nat),.int .u64 (l64 T3:Nat)],.agg #[.int .u64 (h64 T4:Nat),.int .u64 (l64 T4:Nat)]] W fun e w'=>e= .returned (el R)∧Kept [] W w'
theorem word_lt{a b:Nat}(ha:a < 144115188075855872)(hb:b < 144115188075855872):a * b < 20769187434139310514121985316880384:=
 Nat.lt_of_le_of_lt (Nat.mul_le_mul (Nat.le_sub_one_of_lt ha) (Nat.le_sub_one_of_lt hb)) (by decide)
theorem c2p{a0 b0 a1 b1 a2 b2:Nat}(h0:a0 < 144115188075855872∧b0 < 144115188075855872)(h1:a1 < 144115188075855872∧b1 < 144115188075855872)(h2:a2 < 144115188075855872∧b2 < 144115188075855872) :
 ∃s0 s1 s2,PrC a0 b0 s0∧PlC s0 a1 b1 s1∧PlC s1 a2 b2 s2∧s2=a0 * b0 + a1 * b1 + a2 * b2:=by
 have p0:=word_lt h0.1 h0.2;have p1:=word_lt h1.1 h1.2;have p2:=word_lt h2.1 h2.2;exact⟨_,_,_,fun W=>b5u a0 b0 (by omega) (by omega) W,fun W=>a9x _ a1 b1 (by omega) (by omega) (by omega) W,fun W=>a9x _ a2 b2 (by omega) (by omega) (by omega) W,rfl⟩
theorem c2h{a0 b0 a1 b1 a2 b2 a3 b3 a4 b4:Nat}(h0:a0 < 144115188075855872∧b0 < 144115188075855872)(h1:a1 < 144115188075855872∧b1 < 144115188075855872)(h2:a2 < 144115188075855872∧b2 < 144115188075855872)
 (h3:a3 < 144115188075855872∧b3 < 144115188075855872) (h4:a4 < 144115188075855872∧b4 < 144115188075855872) :
 ∃s0 s1 s2 s3 s4,PrC a0 b0 s0∧PlC s0 a1 b1 s1∧PlC s1 a2 b2 s2∧PlC s2 a3 b3 s3∧PlC s3 a4 b4 s4∧s4=a0 * b0 + a1 * b1 + a2 * b2 + a3 * b3 + a4 * b4:=by
 have p0:=word_lt h0.1 h0.2;have p1:=word_lt h1.1 h1.2;have p2:=word_lt h2.1 h2.2;have p3:=word_lt h3.1 h3.2;have p4:=word_lt h4.1 h4.2;exact⟨_,_,_,_,_,fun W=>b5u a0 b0 (by omega) (by omega) W,fun W=>a9x _ a1 b1 (by omega) (by omega) (by omega) W,fun W=>a9x _ a2 b2 (by omega) (by omega) (by omega) W,fun W=>a9x _ a3 b3 (by omega) (by omega) (by omega) W,fun W=>a9x _ a4 b4 (by omega) (by omega) (by omega) W,rfl⟩
structure Sums (w0:World) (g4:Nat) (L:List (Nat × Nat)) (u:World):Prop where
 r:Blk u g4 70 (uv (fam 5 a0j)).toArray
 s:∀p∈L,Blk u p.1 209 (uv (prs p.2)).toArray
 k:Kept [] w0 u
 le:w0.heap.size≤g4
theorem Sums.kept{w0:World}{g4:Nat}{L:List (Nat × Nat)}{u u':World}(h:Sums w0 g4 L u)(hk:Kept [] u u'):Sums w0 g4 L u':=
 ⟨h.r.kept hk (by simp),fun p hp=>(h.s p hp).kept hk (by simp),h.k.a0g hk,h.le⟩
theorem Sums.put{w0:World}{g4 g T:Nat}{L:List (Nat × Nat)}{u u1 u2:World}{t:TypeId}{cs:Array Value}(h:Sums w0 g4 L u)(m:Made u u1 g t cs)(b:Blk u2 g 209 (uv (prs T)).toArray)(k:Kept [g] u1 u2):Sums w0 g4 ((g,T) :: L) u2:=by
 have h1:=h.kept m.kept;have nr:=m.ne h.r.lt;refine⟨h1.r.kept k (by simpa using nr),fun p hp=>?_,h1.k.a0r k (Nat.le_trans h.k.size m.le),h.le⟩;rcases List.mem_cons.1 hp with rfl | hp
 ·exact b
 ·exact(h1.s p hp).kept k (by simpa using m.ne (h.s p hp).lt)
theorem Sums.at0{w0:World}{g4 g T:Nat}{L:List (Nat × Nat)}{u:World}(h:Sums w0 g4 ((g,T) :: L) u):Blk u g 209 (uv (prs T)).toArray:=h.s (g,T) (by simp)
theorem Sums.tl{w0:World}{g4:Nat}{p:Nat × Nat}{L:List (Nat × Nat)}{u:World}(h:Sums w0 g4 (p :: L) u):Sums w0 g4 L u:=⟨h.r,fun q hq=>h.s q (by simp [hq]),h.k,h.le⟩
end Go.Proofs.YtdbngnlpafcogaaGreat
namespace Go.Proofs.YtdbngnlpafcogaaGreat
open Go.RowKit Go.Mem
set_option maxHeartbeats 4000000 in
theorem d9g(F G:Nat→Nat)(w:World)(hF:Lim F)(hG:Lim G) :
 Calls Tryz.prog 99 #[el F,el G] w fun e w'=>e= .returned (el (a5l (gaL (b0m F G))))∧Kept [] w w':=by
 have hgat:=fun W=>b4e (b0m F G) W (b1s hF hG)
 obtain⟨R,hR⟩:∃R,R=a5l (gaL (b0m F G)):=⟨_,rfl⟩;rw [←hR]at hgat ⊢;clear hR;obtain⟨a0,ha0⟩:∃x,x=F 0:=⟨_,rfl⟩;have ka0:=hF 0 (by omega);rw [←ha0]at ka0;obtain⟨a1,ha1⟩:∃x,x=F 1:=⟨_,rfl⟩;have ka1:=hF 1 (by omega);rw [←ha1]at ka1;obtain⟨a2,ha2⟩:∃x,x=F 2:=⟨_,rfl⟩;have ka2:=hF 2 (by omega);rw [←ha2]at ka2;obtain⟨a3,ha3⟩:∃x,x=F 3:=⟨_,rfl⟩;have ka3:=hF 3 (by omega);rw [←ha3]at ka3;obtain⟨a4,ha4⟩:∃x,x=F 4:=⟨_,rfl⟩;have ka4:=hF 4 (by omega);rw [←ha4]at ka4;obtain⟨b0,hb0⟩:∃x,x=G 0:=⟨_,rfl⟩;have kb0:=hG 0 (by omega);rw [←hb0]at kb0;obtain⟨b1,hb1⟩:∃x,x=G 1:=⟨_,rfl⟩;have kb1:=hG 1 (by omega);rw [←hb1]at kb1;obtain⟨b2,hb2⟩:∃x,x=G 2:=⟨_,rfl⟩;have kb2:=hG 2 (by omega);rw [←hb2]at kb2;obtain⟨b3,hb3⟩:∃x,x=G 3:=⟨_,rfl⟩;have kb3:=hG 3 (by omega);rw [←hb3]at kb3;obtain⟨b4,hb4⟩:∃x,x=G 4:=⟨_,rfl⟩;have kb4:=hG 4 (by omega);rw [←hb4]at kb4;obtain⟨f1,hf1⟩:∃x,x=19 * a1:=⟨_,rfl⟩;obtain⟨f2,hf2⟩:∃x,x=19 * a2:=⟨_,rfl⟩;obtain⟨f3,hf3⟩:∃x,x=19 * a3:=⟨_,rfl⟩;obtain⟨f4,hf4⟩:∃x,x=19 * a4:=⟨_,rfl⟩;obtain⟨s00,s01,s02,s03,T0,c00,c01,c02,c03,c04,hT0⟩:=c2h (a0:=a0) (b0:=b0) (a1:=f1) (b1:=b4) (a2:=f2) (b2:=b3) (a3:=f3) (b3:=b2) (a4:=f4) (b4:=b1) ⟨by omega,by omega⟩ ⟨by omega,by omega⟩ ⟨by omega,by omega⟩ ⟨by omega,by omega⟩ ⟨by omega,by omega⟩;obtain⟨s10,s11,s12,s13,T1,c10,c11,c12,c13,c14,hT1⟩:=c2h (a0:=a0) (b0:=b1) (a1:=a1) (b1:=b0) (a2:=f2) (b2:=b4) (a3:=f3) (b3:=b3) (a4:=f4) (b4:=b2) ⟨by omega,by omega⟩ ⟨by omega,by omega⟩ ⟨by omega,by omega⟩ ⟨by omega,by omega⟩ ⟨by omega,by omega⟩
 obtain⟨s20,s21,s22,s23,T2,c20,c21,c22,c23,c24,hT2⟩:=c2h (a0:=a0) (b0:=b2) (a1:=a1) (b1:=b1) (a2:=a2) (b2:=b0) (a3:=f3) (b3:=b4) (a4:=f4) (b4:=b3) ⟨by omega,by omega⟩ ⟨by omega,by omega⟩ ⟨by omega,by omega⟩ ⟨by omega,by omega⟩ ⟨by omega,by omega⟩;obtain⟨s30,s31,s32,s33,T3,c30,c31,c32,c33,c34,hT3⟩:=c2h (a0:=a0) (b0:=b3) (a1:=a1) (b1:=b2) (a2:=a2) (b2:=b1) (a3:=a3) (b3:=b0) (a4:=f4) (b4:=b4) ⟨by omega,by omega⟩ ⟨by omega,by omega⟩ ⟨by omega,by omega⟩ ⟨by omega,by omega⟩ ⟨by omega,by omega⟩;obtain⟨s40,s41,s42,s43,T4,c40,c41,c42,c43,c44,hT4⟩:=c2h (a0:=a0) (b0:=b4) (a1:=a1) (b1:=b3) (a2:=a2) (b2:=b2) (a3:=a3) (b3:=b1) (a4:=a4) (b4:=b0) ⟨by omega,by omega⟩ ⟨by omega,by omega⟩ ⟨by omega,by omega⟩ ⟨by omega,by omega⟩ ⟨by omega,by omega⟩;have e0:b0m F G 0=T0:=by
  rw [hT0];simp only [hf1,hf2,hf3,hf4,ha0,ha1,ha2,ha3,ha4,hb0,hb1,hb2,hb3,hb4];rfl
 have e1:b0m F G 1=T1:=by
  rw [hT1];simp only [hf2,hf3,hf4,ha0,ha1,ha2,ha3,ha4,hb0,hb1,hb2,hb3,hb4];rfl
 have e2:b0m F G 2=T2:=by
  rw [hT2];simp only [hf3,hf4,ha0,ha1,ha2,ha3,ha4,hb0,hb1,hb2,hb3,hb4];rfl
 have e3:b0m F G 3=T3:=by
  rw [hT3];simp only [hf4,ha0,ha1,ha2,ha3,ha4,hb0,hb1,hb2,hb3,hb4];rfl
 have e4:b0m F G 4=T4:=by
  rw [hT4];simp only [ha0,ha1,ha2,ha3,ha4,hb0,hb1,hb2,hb3,hb4];rfl
 rw [e0,e1,e2,e3,e4]at hgat;have hg:=hjd (show GaC T0 T1 T2 T3 T4 R from fun W=>by rw [←a7f,←a7f,←a7f,←a7f,←a7f];exact hgat W);clear hgat e0 e1 e2 e3 e4 hT0 hT1 hT2 hT3 hT4;replace c00:=hjd c00;replace c01:=hjd c01;replace c02:=hjd c02;replace c03:=hjd c03;replace c04:=hjd c04;replace c10:=hjd c10;replace c11:=hjd c11;replace c12:=hjd c12;replace c13:=hjd c13;replace c14:=hjd c14;replace c20:=hjd c20;replace c21:=hjd c21;replace c22:=hjd c22;replace c23:=hjd c23;replace c24:=hjd c24;replace c30:=hjd c30;replace c31:=hjd c31;replace c32:=hjd c32;replace c33:=hjd c33;replace c34:=hjd c34;replace c40:=hjd c40;replace c41:=hjd c41;replace c42:=hjd c42;replace c43:=hjd c43;replace c44:=hjd c44;have mf1:(19:Int) * ((a1:Nat):Int)=((f1:Nat):Int):=by rw [hf1];omega
 have mf2:(19:Int) * ((a2:Nat):Int)=((f2:Nat):Int):=by rw [hf2];omega
 have mf3:(19:Int) * ((a3:Nat):Int)=((f3:Nat):Int):=by rw [hf3];omega
 have mf4:(19:Int) * ((a4:Nat):Int)=((f4:Nat):Int):=by rw [hf4];omega
 have kk:True:=trivial;clear hf1 hf2 hf3 hf4;have Va0:=hjd ha0;have Va1:=hjd ha1;have Va2:=hjd ha2;have Va3:=hjd ha3;have Va4:=hjd ha4;have Vb0:=hjd hb0;have Vb1:=hjd hb1;have Vb2:=hjd hb2;have Vb3:=hjd hb3;have Vb4:=hjd hb4;clear ha0 ha1 ha2 ha3 ha4 hb0 hb1 hb2 hb3 hb4;clear hF hG;go_enter Tryz.func99,Tryz.ntmps99;go_wp2_with (first
  | ((with_reducible refine a0q (o:=⟨some 2,_,_,_,_,_⟩) (v:=el F) rfl (.tmp 0) rfl rfl ?_);intro g1 w1 m1)
  | ((with_reducible refine a0q (o:=⟨some 3,_,_,_,_,_⟩) (v:=el G) rfl (.tmp 1) rfl rfl ?_);intro g2 w2 m2)
  | ((with_reducible refine a0h (o:=⟨some 4,_,_,_,_,_⟩) rfl rfl a1b ?_);intro g3 w3 m3))
 have A:=hjd ((m1.blk.kept m2.kept (by simp)).kept m3.kept (by simp));have B:=hjd (m2.blk.kept m3.kept (by simp));have H:=hjd (show Sums w g3 [] w3 from⟨m3.blk,fun p hp=>absurd hp (by simp),(m1.kept.a0g m2.kept).a0g m3.kept,Nat.le_trans (m1.kept.a0g m2.kept).size m3.le⟩);clear m1 m2 m3;have pa0:=Blk.a7y A.out 0 (by omega);rw [←Va0.out]at pa0;have pa1:=Blk.a7y A.out 1 (by omega);rw [←Va1.out]at pa1;have pa2:=Blk.a7y A.out 2 (by omega);rw [←Va2.out]at pa2;have pa3:=Blk.a7y A.out 3 (by omega);rw [←Va3.out]at pa3;have pa4:=Blk.a7y A.out 4 (by omega);rw [←Va4.out]at pa4;have pb0:=Blk.a7y B.out 0 (by omega);rw [←Vb0.out]at pb0;have pb1:=Blk.a7y B.out 1 (by omega);rw [←Vb1.out]at pb1;have pb2:=Blk.a7y B.out 2 (by omega);rw [←Vb2.out]at pb2;have pb3:=Blk.a7y B.out 3 (by omega);rw [←Vb3.out]at pb3;have pb4:=Blk.a7y B.out 4 (by omega);rw [←Vb4.out]at pb4;clear A B;clear Va0 Va1 Va2 Va3 Va4 Vb0 Vb1 Vb2 Vb3 Vb4;refine Txt.a2g (by kernel_rfl) (by kernel_rfl) ?_;go_wp2_with fail;refine⟨rfl,by kernel_rfl,?_⟩;go_wp2_with fail;refine Txt.a2g (by kernel_rfl) (by kernel_rfl) ?_;go_wp2_with fail;refine⟨rfl,by kernel_rfl,?_⟩;have H:=hjd (H.out.kept ((Kept.refl [] w3).drew.drew));clear pa0 pa1 pa2 pa3 pa4 pb0 pb1 pb2 pb3 pb4;go_wp2_with (first
  | (go_at_call 156;(with_reducible refine(c00.out _).mono ?_);rintro e u00 ⟨rfl,kk⟩;have H:=hjd (H.out.kept kk);clear kk)
  | (go_at_call 157;(with_reducible refine(c01.out _).mono ?_);rintro e u01 ⟨rfl,kk⟩;have H:=hjd (H.out.kept kk);clear kk)
  | (go_at_call 157;(with_reducible refine(c02.out _).mono ?_);rintro e u02 ⟨rfl,kk⟩;have H:=hjd (H.out.kept kk);clear kk)
  | (go_at_call 157;(with_reducible refine(c03.out _).mono ?_);rintro e u03 ⟨rfl,kk⟩;have H:=hjd (H.out.kept kk);clear kk)
  | (go_at_call 157;(with_reducible refine(c04.out _).mono ?_);rintro e u04 ⟨rfl,kk⟩;have H:=hjd (H.out.kept kk);clear kk)
  | ((with_reducible refine a0h (o:=⟨some 19,_,_,_,_,_⟩) rfl rfl a8o ?_);intro q0 x0 m0)
  | ((with_reducible refine a0a (o:=⟨none,.store 209 (.tmp 19) (.tmp 76),_,_,_,_⟩) a1l rfl (.tmp 19) (.tmp 76) rfl rfl rfl m0.blk rfl rfl (a2e _) ?_);intro y0 b0 k0;have H:=hjd (H.out.put m0 b0 k0);clear m0 b0 k0))
 go_wp2_with (first
  | (go_at_call 156;(with_reducible refine(c10.out _).mono ?_);rintro e u10 ⟨rfl,kk⟩;have H:=hjd (H.out.kept kk);clear kk)
  | (go_at_call 157;(with_reducible refine(c11.out _).mono ?_);rintro e u11 ⟨rfl,kk⟩;have H:=hjd (H.out.kept kk);clear kk)
  | (go_at_call 157;(with_reducible refine(c12.out _).mono ?_);rintro e u12 ⟨rfl,kk⟩;have H:=hjd (H.out.kept kk);clear kk)
  | (go_at_call 157;(with_reducible refine(c13.out _).mono ?_);rintro e u13 ⟨rfl,kk⟩;have H:=hjd (H.out.kept kk);clear kk)
  | (go_at_call 157;(with_reducible refine(c14.out _).mono ?_);rintro e u14 ⟨rfl,kk⟩;have H:=hjd (H.out.kept kk);clear kk)
  | ((with_reducible refine a0h (o:=⟨some 20,_,_,_,_,_⟩) rfl rfl a8o ?_);intro q1 x1 m1)
  | ((with_reducible refine a0a (o:=⟨none,.store 209 (.tmp 20) (.tmp 91),_,_,_,_⟩) a1l rfl (.tmp 20) (.tmp 91) rfl rfl rfl m1.blk rfl rfl (a2e _) ?_);intro y1 b1 k1;have H:=hjd (H.out.put m1 b1 k1);clear m1 b1 k1))
 go_wp2_with (first
  | (go_at_call 156;(with_reducible refine(c20.out _).mono ?_);rintro e u20 ⟨rfl,kk⟩;have H:=hjd (H.out.kept kk);clear kk)
  | (go_at_call 157;(with_reducible refine(c21.out _).mono ?_);rintro e u21 ⟨rfl,kk⟩;have H:=hjd (H.out.kept kk);clear kk)
  | (go_at_call 157;(with_reducible refine(c22.out _).mono ?_);rintro e u22 ⟨rfl,kk⟩;have H:=hjd (H.out.kept kk);clear kk)
  | (go_at_call 157;(with_reducible refine(c23.out _).mono ?_);rintro e u23 ⟨rfl,kk⟩;have H:=hjd (H.out.kept kk);clear kk)
  | (go_at_call 157;(with_reducible refine(c24.out _).mono ?_);rintro e u24 ⟨rfl,kk⟩;have H:=hjd (H.out.kept kk);clear kk)
  | ((with_reducible refine a0h (o:=⟨some 21,_,_,_,_,_⟩) rfl rfl a8o ?_);intro q2 x2 m2)
  | ((with_reducible refine a0a (o:=⟨none,.store 209 (.tmp 21) (.tmp 106),_,_,_,_⟩) a1l rfl (.tmp 21) (.tmp 106) rfl rfl rfl m2.blk rfl rfl (a2e _) ?_);intro y2 b2 k2;have H:=hjd (H.out.put m2 b2 k2);clear m2 b2 k2))
 go_wp2_with (first
  | (go_at_call 156;(with_reducible refine(c30.out _).mono ?_);rintro e u30 ⟨rfl,kk⟩;have H:=hjd (H.out.kept kk);clear kk)
  | (go_at_call 157;(with_reducible refine(c31.out _).mono ?_);rintro e u31 ⟨rfl,kk⟩;have H:=hjd (H.out.kept kk);clear kk)
  | (go_at_call 157;(with_reducible refine(c32.out _).mono ?_);rintro e u32 ⟨rfl,kk⟩;have H:=hjd (H.out.kept kk);clear kk)
  | (go_at_call 157;(with_reducible refine(c33.out _).mono ?_);rintro e u33 ⟨rfl,kk⟩;have H:=hjd (H.out.kept kk);clear kk)
  | (go_at_call 157;(with_reducible refine(c34.out _).mono ?_);rintro e u34 ⟨rfl,kk⟩;have H:=hjd (H.out.kept kk);clear kk)
  | ((with_reducible refine a0h (o:=⟨some 22,_,_,_,_,_⟩) rfl rfl a8o ?_);intro q3 x3 m3)
  | ((with_reducible refine a0a (o:=⟨none,.store 209 (.tmp 22) (.tmp 121),_,_,_,_⟩) a1l rfl (.tmp 22) (.tmp 121) rfl rfl rfl m3.blk rfl rfl (a2e _) ?_);intro y3 b3 k3;have H:=hjd (H.out.put m3 b3 k3);clear m3 b3 k3))
 go_wp2_with (first
  | (go_at_call 156;(with_reducible refine(c40.out _).mono ?_);rintro e u40 ⟨rfl,kk⟩;have H:=hjd (H.out.kept kk);clear kk)
  | (go_at_call 157;(with_reducible refine(c41.out _).mono ?_);rintro e u41 ⟨rfl,kk⟩;have H:=hjd (H.out.kept kk);clear kk)
  | (go_at_call 157;(with_reducible refine(c42.out _).mono ?_);rintro e u42 ⟨rfl,kk⟩;have H:=hjd (H.out.kept kk);clear kk)
  | (go_at_call 157;(with_reducible refine(c43.out _).mono ?_);rintro e u43 ⟨rfl,kk⟩;have H:=hjd (H.out.kept kk);clear kk)
  | (go_at_call 157;(with_reducible refine(c44.out _).mono ?_);rintro e u44 ⟨rfl,kk⟩;have H:=hjd (H.out.kept kk);clear kk)
  | ((with_reducible refine a0h (o:=⟨some 23,_,_,_,_,_⟩) rfl rfl a8o ?_);intro q4 x4 m4)
  | ((with_reducible refine a0a (o:=⟨none,.store 209 (.tmp 23) (.tmp 136),_,_,_,_⟩) a1l rfl (.tmp 23) (.tmp 136) rfl rfl rfl m4.blk rfl rfl (a2e _) ?_);intro y4 b4 k4;have H:=hjd (H.out.put m4 b4 k4);clear m4 b4 k4)
  | (with_reducible refine a0d (o:=⟨some 137,_,_,_,_,_⟩) a1l rfl (.tmp 19) rfl rfl H.out.tl.tl.tl.tl.at0 rfl ?_)
  | (with_reducible refine a0d (o:=⟨some 138,_,_,_,_,_⟩) a1l rfl (.tmp 20) rfl rfl H.out.tl.tl.tl.at0 rfl ?_)
  | (with_reducible refine a0d (o:=⟨some 139,_,_,_,_,_⟩) a1l rfl (.tmp 21) rfl rfl H.out.tl.tl.at0 rfl ?_)
  | (with_reducible refine a0d (o:=⟨some 140,_,_,_,_,_⟩) a1l rfl (.tmp 22) rfl rfl H.out.tl.at0 rfl ?_)
  | (with_reducible refine a0d (o:=⟨some 141,_,_,_,_,_⟩) a1l rfl (.tmp 23) rfl rfl H.out.at0 rfl ?_)
  | (go_at_call 158;(with_reducible refine(hg.out _).mono ?_);rintro e w6 ⟨rfl,k6⟩;have H:=hjd (H.out.kept k6);clear k6)
  | ((with_reducible refine a0a (o:=⟨none,.store 70 (.tmp 4) (.tmp 142),_,_,_,_⟩) a0c rfl (.tmp 4) (.tmp 142) rfl rfl rfl H.out.r rfl rfl (a0u _) ?_);intro w8 b8 k8))
 exact a1m a0c rfl rfl b8 rfl rfl ⟨rfl,H.out.k.a0r k8 H.out.le⟩
end Go.Proofs.YtdbngnlpafcogaaGreat
namespace Go.Proofs.YtdbngnlpafcogaaGreat
open Go.RowKit Go.Mem
set_option maxHeartbeats 4000000 in
theorem c4m(F:Nat→Nat)(w:World)(hF:Lim F) :
 Calls Tryz.prog 164 #[el F] w fun e w'=>e= .returned (el (a5l (gaL (b0m F F))))∧Kept [] w w':=by
 have hgat:=fun W=>b4e (b0m F F) W (b1s hF hF)
 obtain⟨R,hR⟩:∃R,R=a5l (gaL (b0m F F)):=⟨_,rfl⟩;rw [←hR]at hgat ⊢;clear hR;obtain⟨a0,ha0⟩:∃x,x=F 0:=⟨_,rfl⟩;have ka0:=hF 0 (by omega);rw [←ha0]at ka0;obtain⟨a1,ha1⟩:∃x,x=F 1:=⟨_,rfl⟩;have ka1:=hF 1 (by omega);rw [←ha1]at ka1;obtain⟨a2,ha2⟩:∃x,x=F 2:=⟨_,rfl⟩;have ka2:=hF 2 (by omega);rw [←ha2]at ka2;obtain⟨a3,ha3⟩:∃x,x=F 3:=⟨_,rfl⟩;have ka3:=hF 3 (by omega);rw [←ha3]at ka3;obtain⟨a4,ha4⟩:∃x,x=F 4:=⟨_,rfl⟩;have ka4:=hF 4 (by omega);rw [←ha4]at ka4;obtain⟨d0,hd0⟩:∃x,x=2 * a0:=⟨_,rfl⟩;obtain⟨d1,hd1⟩:∃x,x=2 * a1:=⟨_,rfl⟩;obtain⟨d2,hd2⟩:∃x,x=2 * a2:=⟨_,rfl⟩;obtain⟨f3,hf3⟩:∃x,x=19 * a3:=⟨_,rfl⟩;obtain⟨f4,hf4⟩:∃x,x=19 * a4:=⟨_,rfl⟩;obtain⟨e3,he3⟩:∃x,x=2 * a3:=⟨_,rfl⟩;obtain⟨s00,s01,T0,c00,c01,c02,hT0⟩:=c2p (a0:=a0) (b0:=a0) (a1:=d1) (b1:=f4) (a2:=d2) (b2:=f3) ⟨by omega,by omega⟩ ⟨by omega,by omega⟩ ⟨by omega,by omega⟩;obtain⟨s10,s11,T1,c10,c11,c12,hT1⟩:=c2p (a0:=d0) (b0:=a1) (a1:=d2) (b1:=f4) (a2:=a3) (b2:=f3) ⟨by omega,by omega⟩ ⟨by omega,by omega⟩ ⟨by omega,by omega⟩;obtain⟨s20,s21,T2,c20,c21,c22,hT2⟩:=c2p (a0:=d0) (b0:=a2) (a1:=a1) (b1:=a1) (a2:=e3) (b2:=f4) ⟨by omega,by omega⟩ ⟨by omega,by omega⟩ ⟨by omega,by omega⟩;obtain⟨s30,s31,T3,c30,c31,c32,hT3⟩:=c2p (a0:=d0) (b0:=a3) (a1:=d1) (b1:=a2) (a2:=a4) (b2:=f4) ⟨by omega,by omega⟩ ⟨by omega,by omega⟩ ⟨by omega,by omega⟩;obtain⟨s40,s41,T4,c40,c41,c42,hT4⟩:=c2p (a0:=d0) (b0:=a4) (a1:=d1) (b1:=a3) (a2:=a2) (b2:=a2) ⟨by omega,by omega⟩ ⟨by omega,by omega⟩ ⟨by omega,by omega⟩;have e0:b0m F F 0=T0:=by
  rw [hT0];simp only [hd1,hd2,hf3,hf4,ha0,ha1,ha2,ha3,ha4];unfold b0m;simp only [reduceIte,reduceCtorEq];generalize F 0=a0,F 1=a1,F 2=a2,F 3=a3,F 4=a4
  grind
 have e1:b0m F F 1=T1:=by
  rw [hT1];simp only [hd0,hd2,hf3,hf4,ha0,ha1,ha2,ha3,ha4];unfold b0m;simp only [reduceIte,Nat.reduceEqDiff,reduceCtorEq];generalize F 0=a0,F 1=a1,F 2=a2,F 3=a3,F 4=a4
  grind
 have e2:b0m F F 2=T2:=by
  rw [hT2];simp only [hd0,hf4,he3,ha0,ha1,ha2,ha3,ha4];unfold b0m;simp only [reduceIte,Nat.reduceEqDiff,reduceCtorEq];generalize F 0=a0,F 1=a1,F 2=a2,F 3=a3,F 4=a4
  grind
 have e3:b0m F F 3=T3:=by
  rw [hT3];simp only [hd0,hd1,hf4,ha0,ha1,ha2,ha3,ha4];unfold b0m;simp only [reduceIte,Nat.reduceEqDiff,reduceCtorEq];generalize F 0=a0,F 1=a1,F 2=a2,F 3=a3,F 4=a4
  grind
 have e4:b0m F F 4=T4:=by
  rw [hT4];simp only [hd0,hd1,ha0,ha1,ha2,ha3,ha4];unfold b0m;simp only [reduceIte,Nat.reduceEqDiff,reduceCtorEq];generalize F 0=a0,F 1=a1,F 2=a2,F 3=a3,F 4=a4
  grind
 rw [e0,e1,e2,e3,e4]at hgat;have hg:=hjd (show GaC T0 T1 T2 T3 T4 R from fun W=>by rw [←a7f,←a7f,←a7f,←a7f,←a7f];exact hgat W);clear hgat e0 e1 e2 e3 e4 hT0 hT1 hT2 hT3 hT4;replace c00:=hjd c00;replace c01:=hjd c01;replace c02:=hjd c02;replace c10:=hjd c10;replace c11:=hjd c11;replace c12:=hjd c12;replace c20:=hjd c20;replace c21:=hjd c21;replace c22:=hjd c22;replace c30:=hjd c30;replace c31:=hjd c31;replace c32:=hjd c32;replace c40:=hjd c40;replace c41:=hjd c41;replace c42:=hjd c42;have md0:(2:Int) * ((a0:Nat):Int)=((d0:Nat):Int):=by rw [hd0];omega
 have md1:(2:Int) * ((a1:Nat):Int)=((d1:Nat):Int):=by rw [hd1];omega
 have md2:(2:Int) * ((a2:Nat):Int)=((d2:Nat):Int):=by rw [hd2];omega
 have mf3:(19:Int) * ((a3:Nat):Int)=((f3:Nat):Int):=by rw [hf3];omega
 have mf4:(19:Int) * ((a4:Nat):Int)=((f4:Nat):Int):=by rw [hf4];omega
 have me3:(2:Int) * ((a3:Nat):Int)=((e3:Nat):Int):=by rw [he3];omega
 have kk:True:=trivial;clear hd0 hd1 hd2 hf3 hf4 he3;have Va0:=hjd ha0;have Va1:=hjd ha1;have Va2:=hjd ha2;have Va3:=hjd ha3;have Va4:=hjd ha4;clear ha0 ha1 ha2 ha3 ha4;clear hF;go_enter Tryz.func164,Tryz.ntmps164;go_wp2_with (first
  | ((with_reducible refine a0q (o:=⟨some 1,_,_,_,_,_⟩) (v:=el F) rfl (.tmp 0) rfl rfl ?_);intro g1 w1 m1)
  | ((with_reducible refine a0h (o:=⟨some 2,_,_,_,_,_⟩) rfl rfl a1b ?_);intro g3 w3 m3))
 have A:=hjd (m1.blk.kept m3.kept (by simp));have H:=hjd (show Sums w g3 [] w3 from⟨m3.blk,fun p hp=>absurd hp (by simp),m1.kept.a0g m3.kept,Nat.le_trans m1.kept.size m3.le⟩);clear m1 m3;have pa0:=Blk.a7y A.out 0 (by omega);rw [←Va0.out]at pa0;have pa1:=Blk.a7y A.out 1 (by omega);rw [←Va1.out]at pa1;have pa2:=Blk.a7y A.out 2 (by omega);rw [←Va2.out]at pa2;have pa3:=Blk.a7y A.out 3 (by omega);rw [←Va3.out]at pa3;have pa4:=Blk.a7y A.out 4 (by omega);rw [←Va4.out]at pa4;clear A;clear Va0 Va1 Va2 Va3 Va4;refine Txt.a2g (by kernel_rfl) (by kernel_rfl) ?_;go_wp2_with fail;refine⟨rfl,by kernel_rfl,?_⟩;have H:=hjd (H.out.kept ((Kept.refl [] w3).drew));clear pa0 pa1 pa2 pa3 pa4;go_wp2_with (first
  | (go_at_call 156;(with_reducible refine(c00.out _).mono ?_);rintro e u00 ⟨rfl,kk⟩;have H:=hjd (H.out.kept kk);clear kk)
  | (go_at_call 157;(with_reducible refine(c01.out _).mono ?_);rintro e u01 ⟨rfl,kk⟩;have H:=hjd (H.out.kept kk);clear kk)
  | (go_at_call 157;(with_reducible refine(c02.out _).mono ?_);rintro e u02 ⟨rfl,kk⟩;have H:=hjd (H.out.kept kk);clear kk)
  | ((with_reducible refine a0h (o:=⟨some 13,_,_,_,_,_⟩) rfl rfl a8o ?_);intro q0 x0 m0)
  | ((with_reducible refine a0a (o:=⟨none,.store 209 (.tmp 13) (.tmp 51),_,_,_,_⟩) a1l rfl (.tmp 13) (.tmp 51) rfl rfl rfl m0.blk rfl rfl (a2e _) ?_);intro y0 b0 k0;have H:=hjd (H.out.put m0 b0 k0);clear m0 b0 k0))
 go_wp2_with (first
  | (go_at_call 156;(with_reducible refine(c10.out _).mono ?_);rintro e u10 ⟨rfl,kk⟩;have H:=hjd (H.out.kept kk);clear kk)
  | (go_at_call 157;(with_reducible refine(c11.out _).mono ?_);rintro e u11 ⟨rfl,kk⟩;have H:=hjd (H.out.kept kk);clear kk)
  | (go_at_call 157;(with_reducible refine(c12.out _).mono ?_);rintro e u12 ⟨rfl,kk⟩;have H:=hjd (H.out.kept kk);clear kk)
  | ((with_reducible refine a0h (o:=⟨some 14,_,_,_,_,_⟩) rfl rfl a8o ?_);intro q1 x1 m1)
  | ((with_reducible refine a0a (o:=⟨none,.store 209 (.tmp 14) (.tmp 60),_,_,_,_⟩) a1l rfl (.tmp 14) (.tmp 60) rfl rfl rfl m1.blk rfl rfl (a2e _) ?_);intro y1 b1 k1;have H:=hjd (H.out.put m1 b1 k1);clear m1 b1 k1))
 go_wp2_with (first
  | (go_at_call 156;(with_reducible refine(c20.out _).mono ?_);rintro e u20 ⟨rfl,kk⟩;have H:=hjd (H.out.kept kk);clear kk)
  | (go_at_call 157;(with_reducible refine(c21.out _).mono ?_);rintro e u21 ⟨rfl,kk⟩;have H:=hjd (H.out.kept kk);clear kk)
  | (go_at_call 157;(with_reducible refine(c22.out _).mono ?_);rintro e u22 ⟨rfl,kk⟩;have H:=hjd (H.out.kept kk);clear kk)
  | ((with_reducible refine a0h (o:=⟨some 15,_,_,_,_,_⟩) rfl rfl a8o ?_);intro q2 x2 m2)
  | ((with_reducible refine a0a (o:=⟨none,.store 209 (.tmp 15) (.tmp 70),_,_,_,_⟩) a1l rfl (.tmp 15) (.tmp 70) rfl rfl rfl m2.blk rfl rfl (a2e _) ?_);intro y2 b2 k2;have H:=hjd (H.out.put m2 b2 k2);clear m2 b2 k2))
 go_wp2_with (first
  | (go_at_call 156;(with_reducible refine(c30.out _).mono ?_);rintro e u30 ⟨rfl,kk⟩;have H:=hjd (H.out.kept kk);clear kk)
  | (go_at_call 157;(with_reducible refine(c31.out _).mono ?_);rintro e u31 ⟨rfl,kk⟩;have H:=hjd (H.out.kept kk);clear kk)
  | (go_at_call 157;(with_reducible refine(c32.out _).mono ?_);rintro e u32 ⟨rfl,kk⟩;have H:=hjd (H.out.kept kk);clear kk)
  | ((with_reducible refine a0h (o:=⟨some 16,_,_,_,_,_⟩) rfl rfl a8o ?_);intro q3 x3 m3)
  | ((with_reducible refine a0a (o:=⟨none,.store 209 (.tmp 16) (.tmp 79),_,_,_,_⟩) a1l rfl (.tmp 16) (.tmp 79) rfl rfl rfl m3.blk rfl rfl (a2e _) ?_);intro y3 b3 k3;have H:=hjd (H.out.put m3 b3 k3);clear m3 b3 k3))
 go_wp2_with (first
  | (go_at_call 156;(with_reducible refine(c40.out _).mono ?_);rintro e u40 ⟨rfl,kk⟩;have H:=hjd (H.out.kept kk);clear kk)
  | (go_at_call 157;(with_reducible refine(c41.out _).mono ?_);rintro e u41 ⟨rfl,kk⟩;have H:=hjd (H.out.kept kk);clear kk)
  | (go_at_call 157;(with_reducible refine(c42.out _).mono ?_);rintro e u42 ⟨rfl,kk⟩;have H:=hjd (H.out.kept kk);clear kk)
  | ((with_reducible refine a0h (o:=⟨some 17,_,_,_,_,_⟩) rfl rfl a8o ?_);intro q4 x4 m4)
  | ((with_reducible refine a0a (o:=⟨none,.store 209 (.tmp 17) (.tmp 88),_,_,_,_⟩) a1l rfl (.tmp 17) (.tmp 88) rfl rfl rfl m4.blk rfl rfl (a2e _) ?_);intro y4 b4 k4;have H:=hjd (H.out.put m4 b4 k4);clear m4 b4 k4)
  | (with_reducible refine a0d (o:=⟨some 89,_,_,_,_,_⟩) a1l rfl (.tmp 13) rfl rfl H.out.tl.tl.tl.tl.at0 rfl ?_)
  | (with_reducible refine a0d (o:=⟨some 90,_,_,_,_,_⟩) a1l rfl (.tmp 14) rfl rfl H.out.tl.tl.tl.at0 rfl ?_)
  | (with_reducible refine a0d (o:=⟨some 91,_,_,_,_,_⟩) a1l rfl (.tmp 15) rfl rfl H.out.tl.tl.at0 rfl ?_)
  | (with_reducible refine a0d (o:=⟨some 92,_,_,_,_,_⟩) a1l rfl (.tmp 16) rfl rfl H.out.tl.at0 rfl ?_)
  | (with_reducible refine a0d (o:=⟨some 93,_,_,_,_,_⟩) a1l rfl (.tmp 17) rfl rfl H.out.at0 rfl ?_)
  | (go_at_call 158;(with_reducible refine(hg.out _).mono ?_);rintro e w6 ⟨rfl,k6⟩;have H:=hjd (H.out.kept k6);clear k6)
  | ((with_reducible refine a0a (o:=⟨none,.store 70 (.tmp 2) (.tmp 94),_,_,_,_⟩) a0c rfl (.tmp 2) (.tmp 94) rfl rfl rfl H.out.r rfl rfl (a0u _) ?_);intro w8 b8 k8))
 exact a1m a0c rfl rfl b8 rfl rfl ⟨rfl,H.out.k.a0r k8 H.out.le⟩
end Go.Proofs.YtdbngnlpafcogaaGreat
namespace Go.Proofs.YtdbngnlpafcogaaGreat
open Go.RowKit Go.Mem
def mlF(F G:Nat→Nat):Nat→Nat:=a5l (gaL (b0m F G))
def sqF(F:Nat→Nat):Nat→Nat:=a5l (gaL (b0m F F))
def sqn:Nat→(Nat→Nat)→Nat→Nat
 | 0,F=>F
 | k + 1,F=>sqF (sqn k F)
theorem a0i{F G:Nat→Nat}(h:Lim F)(h2:Lim G):Lim (mlF F G):=d6b (b1s h h2)
theorem b5m{F:Nat→Nat}(h:Lim F):Lim (sqF F):=d6b (b1s h h)
theorem a5d{F:Nat→Nat}(h:Lim F):∀k,Lim (sqn k F)
 | 0=>h
 | k + 1=>b5m (a5d h k)
abbrev SqC(F R:Nat→Nat):Prop:=∀W,Calls Tryz.prog 164 #[el F] W fun e w'=>e= .returned (el R)∧Kept [] W w'
abbrev SnC(n:Nat)(F R:Nat→Nat):Prop:=∀W,Calls Tryz.prog 155 #[el F,.int .i64 n] W fun e w'=>e= .returned (el R)∧Kept [] W w'
abbrev MlC(F G R:Nat→Nat):Prop:=∀W,Calls Tryz.prog 99 #[el F,el G] W fun e w'=>e= .returned (el R)∧Kept [] W w'
theorem c0i(F:Nat→Nat)(h:Lim F):SqC F (sqF F):=fun W=>c4m F W h
theorem a4i(F G:Nat→Nat)(h:Lim F)(h2:Lim G):MlC F G (mlF F G):=fun W=>d9g F G W h h2
structure SqM (w0:World) (g1 g2:Nat) (F:Nat→Nat) (u:World):Prop where
 a:Blk u g1 70 (uv (fam 5 F)).toArray
 r:Blk u g2 70 (uv (fam 5 a0j)).toArray
 k:Kept [] w0 u
theorem SqM.kept{w0:World}{g1 g2:Nat}{F:Nat→Nat}{u u':World}(h:SqM w0 g1 g2 F u)(hk:Kept [] u u'):SqM w0 g1 g2 F u':=⟨h.a.kept hk (by simp),h.r.kept hk (by simp),h.k.a0g hk⟩
theorem SqM.put{w0:World}{g1 g2:Nat}{F G:Nat→Nat}{u u':World}(h:SqM w0 g1 g2 F u)(b:Blk u' g1 70 (uv (fam 5 G)).toArray)(hk:Kept [g1] u u')(hl:w0.heap.size≤g1)(hn:g1≠g2):SqM w0 g1 g2 G u':=
 ⟨b,h.r.kept hk (by simpa using Ne.symm hn),h.k.a0r hk hl⟩
set_option maxHeartbeats 1600000 in
theorem a7g(n:Nat)(F:Nat→Nat)(hF:Lim F)(hn:n≤1000):SnC n F (sqn n F):=by
 intro w;have hsq:=hjd (fun k=>c0i (sqn k F) (a5d hF k));clear hF;go_enter Tryz.func155,Tryz.ntmps155;go_wp2_with (first
  | ((with_reducible refine a0q (o:=⟨some 2,_,_,_,_,_⟩) (v:=el F) rfl (.tmp 0) rfl rfl ?_);intro g1 w1 m1)
  | ((with_reducible refine a0h (o:=⟨some 4,_,_,_,_,_⟩) rfl rfl a1b ?_);intro g2 w2 m2))
 have N:=hjd (And.intro m1.le (And.intro (Nat.le_trans m1.kept.size m2.le) (m2.ne m1.blk.lt)));have H0:=hjd (show SqM w g1 g2 (sqn 0 F) w2 from⟨m1.blk.kept m2.kept (by simp),m2.blk,m1.kept.a0g m2.kept⟩);clear m1 m2;go_loopg [6] n (fun f i wk=>∃k:Nat,k≤n∧f + k=n∧i= .int .i64 k∧SqM w g1 g2 (sqn k F) wk);case atStart=>exact⟨0,Nat.zero_le _,rfl,rfl,H0.out⟩
 case round=>
  obtain⟨k,hk,hf,rfl,hs⟩:=hrel;have H:=hjd hs;clear hs;by_cases hlt:k < n
  ·have hc:=hjd (hsq.out k);go_wp2_with (first
    | (with_reducible refine a0d (o:=⟨some 8,_,_,_,_,_⟩) a0c rfl (.tmp 2) rfl rfl H.out.a rfl ?_)
    | (go_at_call 164;refine(hc.out _).mono ?_;rintro e w6 ⟨rfl,k6⟩;have H:=hjd (H.out.kept k6);clear k6)
    | (refine a0a a0c rfl (.tmp 2) (.tmp 9) rfl rfl rfl H.out.a rfl rfl (a0u _) ?_;intro w8 b8 k8))
   go_roundg (n - (k + 1));case measure=>omega
   case rel=>exact⟨k + 1,by omega,by omega,by go_num,H.out.put b8 k8 N.out.1 N.out.2.2⟩
  ·obtain rfl:k=n:=by omega
   go_wp2_with (first
    | (with_reducible refine a0d (o:=⟨some 11,_,_,_,_,_⟩) a0c rfl (.tmp 2) rfl rfl H.out.a rfl ?_)
    | (refine a0a a0c rfl (.tmp 4) (.tmp 11) rfl rfl rfl H.out.r rfl rfl (a0u _) ?_;intro w8 b8 k8))
   exact a1m a0c rfl rfl b8 rfl rfl ⟨rfl,H.out.k.a0r k8 N.out.2.1⟩
end Go.Proofs.YtdbngnlpafcogaaGreat
namespace Go.Mem
open Go.RowKit
variable {P:Program} {w:World} {a:Act} {t:TypeId} {n:Nat}
theorem c5j{fn:Func}{p u:Tmp}{ty t2:TypeId}(h:fn.results= #[.cell p ty,.cell u t2])(tmps:Array Value)(P:Program)(w:World) :
 (results fn tmps).run P w =
   ((asAddr (tmps.getD p undef)).run P w).andThen fun a w₁=>((loadVar ty a).run P w₁).andThen fun v w₂=>((asAddr (tmps.getD u undef)).run P w₂).andThen fun a w₁=>((loadVar t2 a).run P w₁).andThen fun v2 w₂=>.ok (.tuple #[v,v2]) w₂:=by
 simp only [results,h];simp [Sem.run_bind]
theorem e0y{fn:Func}{R:Ending→World→Prop}(T:RowT P t n){p u:Tmp}(hres:fn.results= #[.cell p t,.cell u t]){g g2:Nat}(hp:a.tmps.getD p undef= .pointer (some ⟨g,0,none⟩))(hp2:a.tmps.getD u undef= .pointer (some ⟨g2,0,none⟩)){bt bt2:TypeId}{cs cs2:Array Value}
 (hb:Blk w g bt cs) (hn:cs.size=n) (hb2:Blk w g2 bt2 cs2) (hn2:cs2.size=n) (hd:a.defers= []) (h:R (.returned (.tuple #[.agg cs,.agg cs2])) w):bodyPost P fn R .ret a w:=by
 obtain⟨⟨d,hu,hd2⟩,hs⟩:=T;refine bodyPost_ret ?_ hd h;rw [c5j hres,hp,hp2];simp only [asAddr,Sem.run_pure,Result.andThen_ok,run_loadVar_row (P:=P) w g bt t cs (0,0) d hb hu (by cases d <;> simp_all) (by rw [hs,hn]),run_loadVar_row (P:=P) w g2 bt2 t cs2 (0,0) d hb2 hu (by cases d <;> simp_all) (by rw [hs,hn2])]
end Go.Mem
namespace Go.Proofs.YtdbngnlpafcogaaGreat
open Go.RowKit Go.Mem
structure Els (w0:World) (L:List (Nat × (Nat→Nat))) (u:World):Prop where
 s:∀p∈L,Blk u p.1 70 (uv (fam 5 p.2)).toArray
 f:∀p∈L,w0.heap.size≤p.1
 k:Kept [] w0 u
theorem Els.none(w0:World):Els w0 [] w0:=⟨fun _ h=>absurd h (by simp),fun _ h=>absurd h (by simp),Kept.refl _ _⟩
theorem Els.kept{w0:World}{L:List (Nat × (Nat→Nat))}{u u':World}(h:Els w0 L u)(hk:Kept [] u u'):Els w0 L u':=
 ⟨fun p hp=>(h.s p hp).kept hk (by simp),h.f,h.k.a0g hk⟩
theorem Els.cons{w0:World}{g:Nat}{X:Nat→Nat}{L:List (Nat × (Nat→Nat))}{u:World}(h:Els w0 L u)(b:Blk u g 70 (uv (fam 5 X)).toArray)(hl:w0.heap.size≤g):Els w0 ((g,X) :: L) u:=by
 refine⟨fun p hp=>?_,fun p hp=>?_,h.k⟩
 ·rcases List.mem_cons.1 hp with rfl | hp
  ·exact b
  ·exact h.s p hp
 ·rcases List.mem_cons.1 hp with rfl | hp
  ·exact hl
  ·exact h.f p hp
theorem Els.put{w0:World}{g:Nat}{X:Nat→Nat}{L:List (Nat × (Nat→Nat))}{u u1 u2:World}{t:TypeId}{cs:Array Value}(h:Els w0 L u)(m:Made u u1 g t cs)(b:Blk u2 g 70 (uv (fam 5 X)).toArray)(k:Kept [g] u1 u2):Els w0 ((g,X) :: L) u2:=by
 have h1:=h.kept m.kept;have hl:=Nat.le_trans h.k.size m.le;refine Els.cons ⟨fun p hp=>?_,h.f,h1.k.a0r k hl⟩ b hl;exact(h1.s p hp).kept k (by simpa using m.ne (h.s p hp).lt)
theorem Els.fresh{w0 wr:World}{L:List (Nat × (Nat→Nat))}(hr:Els w0 L wr)(u u':World)(T:List Nat)(h:Els w0 L u)(hk:Kept T u u')(hT:∀k∈T,wr.heap.size≤k):Els w0 L u':=
 ⟨fun p hp=>(h.s p hp).kept hk fun hh=>by have:=hT _ hh;have:=(hr.s p hp).lt;omega,h.f,h.k.fresh hk fun k hh=>Nat.le_trans hr.k.size (hT k hh)⟩
theorem Els.drew{w0:World}{L:List (Nat × (Nat→Nat))}{u:World}(h:Els w0 L u):Els w0 L u.drew:=⟨h.s,h.f,h.k.drew⟩
structure Fin (w0:World) (g2 g3:Nat) (L:List (Nat × (Nat→Nat))) (u:World):Prop where
 s:∀p∈L,Blk u p.1 70 (uv (fam 5 p.2)).toArray
 f:∀p∈L,w0.heap.size≤p.1
 k:Kept [g2,g3] w0 u
 b2:∃f:Nat→Nat,Blk u g2 70 (uv (fam 5 f)).toArray
 b3:∃f:Nat→Nat,Blk u g3 70 (uv (fam 5 f)).toArray
 l2:g2 < w0.heap.size
 l3:g3 < w0.heap.size
 ne:g2≠g3
theorem Els.fin{w0:World}{g2 g3:Nat}{f2 f3:Nat→Nat}{L:List (Nat × (Nat→Nat))}{u:World}(h:Els w0 L u)(b2:Blk w0 g2 70 (uv (fam 5 f2)).toArray)(b3:Blk w0 g3 70 (uv (fam 5 f3)).toArray)(ne:g2≠g3):Fin w0 g2 g3 L u:=
 ⟨h.s,h.f,h.k.of0,⟨_,b2.kept h.k (by simp)⟩,⟨_,b3.kept h.k (by simp)⟩,b2.lt,b3.lt,ne⟩
theorem Fin.kept{w0:World}{g2 g3:Nat}{L:List (Nat × (Nat→Nat))}{u u':World}(h:Fin w0 g2 g3 L u)(hk:Kept [] u u'):Fin w0 g2 g3 L u':=
 ⟨fun p hp=>(h.s p hp).kept hk (by simp),h.f,h.k.a0g hk,h.b2.elim fun f b=>⟨f,b.kept hk (by simp)⟩,h.b3.elim fun f b=>⟨f,b.kept hk (by simp)⟩,h.l2,h.l3,h.ne⟩
theorem Fin.put2{w0:World}{g2 g3:Nat}{L:List (Nat × (Nat→Nat))}{u u':World}{X:Nat→Nat}(h:Fin w0 g2 g3 L u)(b:Blk u' g2 70 (uv (fam 5 X)).toArray)(k:Kept [g2] u u'):Fin w0 g2 g3 L u':=
 ⟨fun p hp=>(h.s p hp).kept k (by have:=h.f p hp;have:=h.l2;simp;omega),h.f,h.k.trans' (k.more fun x _ hx=>by simp at hx;simp [hx]),⟨X,b⟩,h.b3.elim fun f b=>⟨f,b.kept k (by simpa using Ne.symm h.ne)⟩,h.l2,h.l3,h.ne⟩
theorem Fin.put3{w0:World}{g2 g3:Nat}{L:List (Nat × (Nat→Nat))}{u u':World}{X:Nat→Nat}(h:Fin w0 g2 g3 L u)(b:Blk u' g3 70 (uv (fam 5 X)).toArray)(k:Kept [g3] u u'):Fin w0 g2 g3 L u':=
 ⟨fun p hp=>(h.s p hp).kept k (by have:=h.f p hp;have:=h.l3;simp;omega),h.f,h.k.trans' (k.more fun x _ hx=>by simp at hx;simp [hx]),h.b2.elim fun f b=>⟨f,b.kept k (by simpa using h.ne)⟩,⟨X,b⟩,h.l2,h.l3,h.ne⟩
theorem b1u(xs:Array Value)(w:World):(callFunc 164 xs).run Tryz.prog w= .ok (.enter 164 xs) w:=enters_of (c:=_) Tryz.func164 (by kernel_rfl) rfl xs w
theorem a3e(xs:Array Value)(w:World):(callFunc 155 xs).run Tryz.prog w= .ok (.enter 155 xs) w:=enters_of (c:=_) Tryz.func155 (by kernel_rfl) rfl xs w
theorem a1e(xs:Array Value)(w:World):(callFunc 99 xs).run Tryz.prog w= .ok (.enter 99 xs) w:=enters_of (c:=_) Tryz.func99 (by kernel_rfl) rfl xs w
end Go.Proofs.YtdbngnlpafcogaaGreat
namespace Go.Proofs.YtdbngnlpafcogaaGreat
open Go.RowKit Go.Mem Go.Txt
def c2g(F:Nat→Nat):Nat→Nat:=sqF F
def e8f(F:Nat→Nat):Nat→Nat:=sqn 2 (c2g F)
def b3u(F:Nat→Nat):Nat→Nat:=mlF (e8f F) F
def a8w(F:Nat→Nat):Nat→Nat:=mlF (b3u F) (c2g F)
def e7z(F:Nat→Nat):Nat→Nat:=sqF (a8w F)
def e2k(F:Nat→Nat):Nat→Nat:=mlF (e7z F) (b3u F)
def e8l(F:Nat→Nat):Nat→Nat:=sqn 5 (e2k F)
def b7c(F:Nat→Nat):Nat→Nat:=mlF (e8l F) (e2k F)
def e8c(F:Nat→Nat):Nat→Nat:=sqn 10 (b7c F)
def c2s(F:Nat→Nat):Nat→Nat:=mlF (e8c F) (b7c F)
def e8i(F:Nat→Nat):Nat→Nat:=sqn 20 (c2s F)
def e8b(F:Nat→Nat):Nat→Nat:=mlF (e8i F) (c2s F)
def e7x(F:Nat→Nat):Nat→Nat:=sqn 10 (e8b F)
def b7j(F:Nat→Nat):Nat→Nat:=mlF (e7x F) (b7c F)
def e8j(F:Nat→Nat):Nat→Nat:=sqn 50 (b7j F)
def b3v(F:Nat→Nat):Nat→Nat:=mlF (e8j F) (b7j F)
def e8a(F:Nat→Nat):Nat→Nat:=sqn 100 (b3v F)
def e8e(F:Nat→Nat):Nat→Nat:=mlF (e8a F) (b3v F)
def e8g(F:Nat→Nat):Nat→Nat:=sqn 50 (e8e F)
def c3q(F:Nat→Nat):Nat→Nat:=mlF (e8g F) (b7j F)
theorem b2n{F:Nat→Nat}(h:Lim F):Lim (c2g F):=b5m h
theorem c7q{F:Nat→Nat}(h:Lim F):Lim (e8f F):=a5d (b2n h) 2
theorem b0l{F:Nat→Nat}(h:Lim F):Lim (b3u F):=a0i (c7q h) h
theorem a9s{F:Nat→Nat}(h:Lim F):Lim (a8w F):=a0i (b0l h) (b2n h)
theorem c8p{F:Nat→Nat}(h:Lim F):Lim (e7z F):=b5m (a9s h)
theorem b4v{F:Nat→Nat}(h:Lim F):Lim (e2k F):=a0i (c8p h) (b0l h)
theorem c9d{F:Nat→Nat}(h:Lim F):Lim (e8l F):=a5d (b4v h) 5
theorem a7s{F:Nat→Nat}(h:Lim F):Lim (b7c F):=a0i (c9d h) (b4v h)
theorem c8h{F:Nat→Nat}(h:Lim F):Lim (e8c F):=a5d (a7s h) 10
theorem b2m{F:Nat→Nat}(h:Lim F):Lim (c2s F):=a0i (c8h h) (a7s h)
theorem c7i{F:Nat→Nat}(h:Lim F):Lim (e8i F):=a5d (b2m h) 20
theorem c8y{F:Nat→Nat}(h:Lim F):Lim (e8b F):=a0i (c7i h) (b2m h)
theorem c9h{F:Nat→Nat}(h:Lim F):Lim (e7x F):=a5d (c8y h) 10
theorem a7u{F:Nat→Nat}(h:Lim F):Lim (b7j F):=a0i (c9h h) (a7s h)
theorem c8j{F:Nat→Nat}(h:Lim F):Lim (e8j F):=a5d (a7u h) 50
theorem b0a{F:Nat→Nat}(h:Lim F):Lim (b3v F):=a0i (c8j h) (a7u h)
theorem c6u{F:Nat→Nat}(h:Lim F):Lim (e8a F):=a5d (b0a h) 100
theorem c7g{F:Nat→Nat}(h:Lim F):Lim (e8e F):=a0i (c6u h) (b0a h)
theorem c8m{F:Nat→Nat}(h:Lim F):Lim (e8g F):=a5d (c7g h) 50
theorem b0c{F:Nat→Nat}(h:Lim F):Lim (c3q F):=a0i (c8m h) (a7u h)
set_option maxHeartbeats 4000000 in
theorem c8i(F:Nat→Nat)(hF:Lim F)(w:World) :
 Calls Tryz.prog 154 #[el F] w fun e w'=>e= .returned (.tuple #[el (c3q F),el (a8w F)])∧Kept [] w w':=by
 have c_two:SqC F (c2g F):=c0i _ hF;have c_qa:SnC 2 (c2g F) (e8f F):=a7g 2 _ (b2n hF) (by decide);have c_nine:MlC (e8f F) F (b3u F):=a4i _ _ (c7q hF) hF;have c_elev:MlC (b3u F) (c2g F) (a8w F):=a4i _ _ (b0l hF) (b2n hF);have c_qb:SqC (a8w F) (e7z F):=c0i _ (a9s hF);have c_n5:MlC (e7z F) (b3u F) (e2k F):=a4i _ _ (c8p hF) (b0l hF);have c_qc:SnC 5 (e2k F) (e8l F):=a7g 5 _ (b4v hF) (by decide);have c_n10:MlC (e8l F) (e2k F) (b7c F):=a4i _ _ (c9d hF) (b4v hF);have c_qd:SnC 10 (b7c F) (e8c F):=a7g 10 _ (a7s hF) (by decide);have c_n20:MlC (e8c F) (b7c F) (c2s F):=a4i _ _ (c8h hF) (a7s hF);have c_qe:SnC 20 (c2s F) (e8i F):=a7g 20 _ (b2m hF) (by decide);have c_qf:MlC (e8i F) (c2s F) (e8b F):=a4i _ _ (c7i hF) (b2m hF);have c_qg:SnC 10 (e8b F) (e7x F):=a7g 10 _ (c8y hF) (by decide);have c_n50:MlC (e7x F) (b7c F) (b7j F):=a4i _ _ (c9h hF) (a7s hF);have c_qh:SnC 50 (b7j F) (e8j F):=a7g 50 _ (a7u hF) (by decide);have c_n100:MlC (e8j F) (b7j F) (b3v F):=a4i _ _ (c8j hF) (a7u hF);have c_qi:SnC 100 (b3v F) (e8a F):=a7g 100 _ (b0a hF) (by decide);have c_qj:MlC (e8a F) (b3v F) (e8e F):=a4i _ _ (c6u hF) (b0a hF);have c_qk:SnC 50 (e8e F) (e8g F):=a7g 50 _ (c7g hF) (by decide);have c_nn:MlC (e8g F) (b7j F) (c3q F):=a4i _ _ (c8m hF) (a7u hF);generalize c2g F=two,e8f F=qa,b3u F=nine,a8w F=elev,e7z F=qb,e2k F=n5,e8l F=qc,b7c F=n10,e8c F=qd,c2s F=n20,e8i F=qe,e8b F=qf,e7x F=qg,b7j F=n50,e8j F=qh,b3v F=n100,e8a F=qi,e8e F=qj,e8g F=qk,c3q F=nn at *;replace c_two:=hjd c_two;replace c_qa:=hjd c_qa
 replace c_nine:=hjd c_nine;replace c_elev:=hjd c_elev;replace c_qb:=hjd c_qb;replace c_n5:=hjd c_n5;replace c_qc:=hjd c_qc;replace c_n10:=hjd c_n10;replace c_qd:=hjd c_qd;replace c_n20:=hjd c_n20;replace c_qe:=hjd c_qe;replace c_qf:=hjd c_qf;replace c_qg:=hjd c_qg;replace c_n50:=hjd c_n50;replace c_qh:=hjd c_qh;replace c_n100:=hjd c_n100;replace c_qi:=hjd c_qi;replace c_qj:=hjd c_qj;replace c_qk:=hjd c_qk;replace c_nn:=hjd c_nn;clear hF;go_enter Tryz.func154,Tryz.ntmps154;go_wp2_with (first
  | ((with_reducible refine a0q (o:=⟨some 1,_,_,_,_,_⟩) (v:=el F) rfl (.tmp 0) rfl rfl ?_);intro g1 w1 m1)
  | ((with_reducible refine a0h (o:=⟨some 2,_,_,_,_,_⟩) rfl rfl a1b ?_);intro g2 w2 m2)
  | ((with_reducible refine a0h (o:=⟨some 3,_,_,_,_,_⟩) rfl rfl a1b ?_);intro g3 w3 m3;have H:=hjd (Els.none w3);have D:=hjd (And.intro (Nat.le_trans m1.kept.size m2.le) (And.intro (Nat.le_trans (m1.kept.a0g m2.kept).size m3.le) (And.intro (m3.ne m2.blk.lt) ((m1.kept.a0g m2.kept).a0g m3.kept))));have B1:=hjd ((m1.blk.kept m2.kept (by simp)).kept m3.kept (by simp));have B2:=hjd (m2.blk.kept m3.kept (by simp));have B3:=hjd m3.blk;clear m1 m2 m3)
  | (with_reducible refine a0d (o:=⟨some 12,_,_,_,_,_⟩) a0c rfl (.tmp 1) rfl rfl (B1.out.kept H.out.k (by simp)) rfl ?_)
  | (go_at_call 164;(with_reducible refine(c_two.out _).mono ?_);rintro e u1 ⟨rfl,kk⟩;have H:=hjd (H.out.kept kk);clear kk)
  | ((with_reducible refine a0h (o:=⟨some 4,_,_,_,_,_⟩) rfl rfl a1b ?_);intro q4 x4 m4)
  | ((with_reducible refine a0a (o:=⟨none,.store 70 (.tmp 4) (.tmp 13),_,_,_,_⟩) a0c rfl (.tmp 4) (.tmp 13) rfl rfl rfl m4.blk rfl rfl (a0u _) ?_);intro v4 b4 k4;have H:=hjd (H.out.put m4 b4 k4);clear m4 b4 k4))
 refine a2m (by kernel_rfl) [.val (el two),.val (el qa),.val (el F),.val (el nine),.new 70 (el a0j),.put 4 3 (uv (fam 5 nine)).toArray] (Els w3 [(q4,two)]) (by kernel_rfl) (by kernel_rfl) H.out.drew (H.out.fresh) ?_ ?_
 ·refine⟨?_,?_,?_,?_,?_,?_,trivial⟩
  ·exact⟨⟨_,rfl⟩,fun a' u K0 R hS hr ho h=>a0o a0c (.tmp 4) rfl ((ho 4 (by decide)).trans rfl) (hS.s (q4,two) (by simp)) rfl (h u (Kept.refl _ _))⟩
  ·refine⟨⟨_,rfl⟩,fun a' u K0 R hS hr ho h=>?_⟩;refine a0n rfl a3e (vs:=#[el two,.int .i64 (2:Nat)]) ?_ (c_qa.out u) h;have h0:=hr 0 (el two) 14 _ rfl rfl rfl ⟨⟨0,.data⟩,by simp,rfl,rfl⟩;simp [Act.eval]at h0 ⊢;exact h0
  ·exact⟨⟨_,rfl⟩,fun a' u K0 R hS hr ho h=>a0o a0c (.tmp 1) rfl ((ho 1 (by decide)).trans rfl) (B1.out.kept hS.k (by simp)) rfl (h u (Kept.refl _ _))⟩
  ·refine⟨⟨_,rfl⟩,fun a' u K0 R hS hr ho h=>?_⟩;refine a0n rfl a1e (vs:=#[el qa,el F]) ?_ (c_nine.out u) h;have h0:=hr 1 (el qa) 15 _ rfl rfl rfl ⟨⟨1,.data⟩,by simp,rfl,rfl⟩;have h1:=hr 2 (el F) 16 _ rfl rfl rfl ⟨⟨2,.data⟩,by simp,rfl,rfl⟩;simp [Act.eval]at h0 h1 ⊢;exact⟨h0,h1⟩
  ·exact⟨⟨_,rfl⟩,rfl,a1b⟩
  ·exact⟨rfl,⟨⟨4,.data⟩,by simp,rfl,rfl⟩,⟨⟨3,.data⟩,by simp,rfl,rfl⟩,_,_,_,_,_,_,_,_,rfl,rfl,rfl,rfl,rfl,rfl,rfl,a0c,rfl,rfl,a0u _⟩
 intro γ r2 hS hγ hne hput;have hl:=Nat.le_trans H.out.k.size (hγ 4 _ _ rfl);have b:=hput 5 4 3 _ _ _ rfl rfl;generalize e7:γ 4=q5 at *;simp [a1f,VK,List.range,List.range.loop,Act.put,e7];have H:=hjd (hS.cons b hl);clear b hl hput hne hγ hS e7;go_wp2_with (first
  | (with_reducible refine a0d (o:=⟨some 18,_,_,_,_,_⟩) a0c rfl (.tmp 5) rfl rfl (H.out.s (q5,nine) (by simp)) rfl ?_)
  | (with_reducible refine a0d (o:=⟨some 19,_,_,_,_,_⟩) a0c rfl (.tmp 4) rfl rfl (H.out.s (q4,two) (by simp)) rfl ?_)
  | (go_at_call 99;refine(c_elev.out _).mono ?_;rintro e u2 ⟨rfl,kk⟩;have H:=hjd (H.out.kept kk);clear kk)
  | ((with_reducible refine a0h (o:=⟨some 6,_,_,_,_,_⟩) rfl rfl a1b ?_);intro q6 x6 m6)
  | ((with_reducible refine a0a (o:=⟨none,.store 70 (.tmp 6) (.tmp 20),_,_,_,_⟩) a0c rfl (.tmp 6) (.tmp 20) rfl rfl rfl m6.blk rfl rfl (a0u _) ?_);intro v6 b6 k6;have H:=hjd (H.out.put m6 b6 k6);clear m6 b6 k6))
 refine a2m (by kernel_rfl) [.val (el elev),.val (el qb),.val (el nine),.val (el n5),.new 70 (el a0j),.put 4 3 (uv (fam 5 n5)).toArray] (Els w3 [(q6,elev),(q5,nine),(q4,two)]) (by kernel_rfl) (by kernel_rfl) H.out.drew (H.out.fresh) ?_ ?_
 ·refine⟨?_,?_,?_,?_,?_,?_,trivial⟩
  ·exact⟨⟨_,rfl⟩,fun a' u K0 R hS hr ho h=>a0o a0c (.tmp 6) rfl ((ho 6 (by decide)).trans rfl) (hS.s (q6,elev) (by simp)) rfl (h u (Kept.refl _ _))⟩
  ·refine⟨⟨_,rfl⟩,fun a' u K0 R hS hr ho h=>?_⟩;refine a0n rfl b1u (vs:=#[el elev]) ?_ (c_qb.out u) h;have h0:=hr 0 (el elev) 21 _ rfl rfl rfl ⟨⟨0,.data⟩,by simp,rfl,rfl⟩;simp [Act.eval]at h0 ⊢;exact h0
  ·exact⟨⟨_,rfl⟩,fun a' u K0 R hS hr ho h=>a0o a0c (.tmp 5) rfl ((ho 5 (by decide)).trans rfl) (hS.s (q5,nine) (by simp)) rfl (h u (Kept.refl _ _))⟩
  ·refine⟨⟨_,rfl⟩,fun a' u K0 R hS hr ho h=>?_⟩;refine a0n rfl a1e (vs:=#[el qb,el nine]) ?_ (c_n5.out u) h;have h0:=hr 1 (el qb) 22 _ rfl rfl rfl ⟨⟨1,.data⟩,by simp,rfl,rfl⟩;have h1:=hr 2 (el nine) 23 _ rfl rfl rfl ⟨⟨2,.data⟩,by simp,rfl,rfl⟩;simp [Act.eval]at h0 h1 ⊢;exact⟨h0,h1⟩
  ·exact⟨⟨_,rfl⟩,rfl,a1b⟩
  ·exact⟨rfl,⟨⟨4,.data⟩,by simp,rfl,rfl⟩,⟨⟨3,.data⟩,by simp,rfl,rfl⟩,_,_,_,_,_,_,_,_,rfl,rfl,rfl,rfl,rfl,rfl,rfl,a0c,rfl,rfl,a0u _⟩
 intro γ r4 hS hγ hne hput;have hl:=Nat.le_trans H.out.k.size (hγ 4 _ _ rfl);have b:=hput 5 4 3 _ _ _ rfl rfl;generalize e7:γ 4=q7 at *;simp [a1f,VK,List.range,List.range.loop,Act.put,e7];have H:=hjd (hS.cons b hl);clear b hl hput hne hγ hS e7;go_wp2_with fail;refine a2m (by kernel_rfl) [.val (el n5),.val (el qc),.val (el n5),.val (el n10),.new 70 (el a0j),.put 4 3 (uv (fam 5 n10)).toArray] (Els w3 [(q7,n5),(q6,elev),(q5,nine),(q4,two)]) (by kernel_rfl) (by kernel_rfl) H.out.drew (H.out.fresh) ?_ ?_
 ·refine⟨?_,?_,?_,?_,?_,?_,trivial⟩
  ·exact⟨⟨_,rfl⟩,fun a' u K0 R hS hr ho h=>a0o a0c (.tmp 7) rfl ((ho 7 (by decide)).trans rfl) (hS.s (q7,n5) (by simp)) rfl (h u (Kept.refl _ _))⟩
  ·refine⟨⟨_,rfl⟩,fun a' u K0 R hS hr ho h=>?_⟩;refine a0n rfl a3e (vs:=#[el n5,.int .i64 (5:Nat)]) ?_ (c_qc.out u) h;have h0:=hr 0 (el n5) 25 _ rfl rfl rfl ⟨⟨0,.data⟩,by simp,rfl,rfl⟩;simp [Act.eval]at h0 ⊢;exact h0
  ·exact⟨⟨_,rfl⟩,fun a' u K0 R hS hr ho h=>a0o a0c (.tmp 7) rfl ((ho 7 (by decide)).trans rfl) (hS.s (q7,n5) (by simp)) rfl (h u (Kept.refl _ _))⟩
  ·refine⟨⟨_,rfl⟩,fun a' u K0 R hS hr ho h=>?_⟩;refine a0n rfl a1e (vs:=#[el qc,el n5]) ?_ (c_n10.out u) h;have h0:=hr 1 (el qc) 26 _ rfl rfl rfl ⟨⟨1,.data⟩,by simp,rfl,rfl⟩;have h1:=hr 2 (el n5) 27 _ rfl rfl rfl ⟨⟨2,.data⟩,by simp,rfl,rfl⟩;simp [Act.eval]at h0 h1 ⊢;exact⟨h0,h1⟩
  ·exact⟨⟨_,rfl⟩,rfl,a1b⟩
  ·exact⟨rfl,⟨⟨4,.data⟩,by simp,rfl,rfl⟩,⟨⟨3,.data⟩,by simp,rfl,rfl⟩,_,_,_,_,_,_,_,_,rfl,rfl,rfl,rfl,rfl,rfl,rfl,a0c,rfl,rfl,a0u _⟩
 intro γ r5 hS hγ hne hput;have hl:=Nat.le_trans H.out.k.size (hγ 4 _ _ rfl);have b:=hput 5 4 3 _ _ _ rfl rfl;generalize e7:γ 4=q8 at *;simp [a1f,VK,List.range,List.range.loop,Act.put,e7];have H:=hjd (hS.cons b hl);clear b hl hput hne hγ hS e7;go_wp2_with fail;refine a2m (by kernel_rfl) [.val (el n10),.val (el qd),.val (el n10),.val (el n20),.new 70 (el a0j),.put 4 3 (uv (fam 5 n20)).toArray] (Els w3 [(q8,n10),(q7,n5),(q6,elev),(q5,nine),(q4,two)]) (by kernel_rfl) (by kernel_rfl) H.out.drew (H.out.fresh) ?_ ?_
 ·refine⟨?_,?_,?_,?_,?_,?_,trivial⟩
  ·exact⟨⟨_,rfl⟩,fun a' u K0 R hS hr ho h=>a0o a0c (.tmp 8) rfl ((ho 8 (by decide)).trans rfl) (hS.s (q8,n10) (by simp)) rfl (h u (Kept.refl _ _))⟩
  ·refine⟨⟨_,rfl⟩,fun a' u K0 R hS hr ho h=>?_⟩;refine a0n rfl a3e (vs:=#[el n10,.int .i64 (10:Nat)]) ?_ (c_qd.out u) h;have h0:=hr 0 (el n10) 29 _ rfl rfl rfl ⟨⟨0,.data⟩,by simp,rfl,rfl⟩;simp [Act.eval]at h0 ⊢;exact h0
  ·exact⟨⟨_,rfl⟩,fun a' u K0 R hS hr ho h=>a0o a0c (.tmp 8) rfl ((ho 8 (by decide)).trans rfl) (hS.s (q8,n10) (by simp)) rfl (h u (Kept.refl _ _))⟩
  ·refine⟨⟨_,rfl⟩,fun a' u K0 R hS hr ho h=>?_⟩;refine a0n rfl a1e (vs:=#[el qd,el n10]) ?_ (c_n20.out u) h;have h0:=hr 1 (el qd) 30 _ rfl rfl rfl ⟨⟨1,.data⟩,by simp,rfl,rfl⟩;have h1:=hr 2 (el n10) 31 _ rfl rfl rfl ⟨⟨2,.data⟩,by simp,rfl,rfl⟩;simp [Act.eval]at h0 h1 ⊢;exact⟨h0,h1⟩
  ·exact⟨⟨_,rfl⟩,rfl,a1b⟩
  ·exact⟨rfl,⟨⟨4,.data⟩,by simp,rfl,rfl⟩,⟨⟨3,.data⟩,by simp,rfl,rfl⟩,_,_,_,_,_,_,_,_,rfl,rfl,rfl,rfl,rfl,rfl,rfl,a0c,rfl,rfl,a0u _⟩
 intro γ r6 hS hγ hne hput;have hl:=Nat.le_trans H.out.k.size (hγ 4 _ _ rfl);have b:=hput 5 4 3 _ _ _ rfl rfl;generalize e7:γ 4=q9 at *;simp [a1f,VK,List.range,List.range.loop,Act.put,e7];have H:=hjd (hS.cons b hl);clear b hl hput hne hγ hS e7;go_wp2_with fail;refine a2m (by kernel_rfl) [.val (el n20),.val (el qe),.val (el n20),.val (el qf),.val (el qg),.val (el n10),.val (el n50),.new 70 (el a0j),.put 7 6 (uv (fam 5 n50)).toArray] (Els w3 [(q9,n20),(q8,n10),(q7,n5),(q6,elev),(q5,nine),(q4,two)]) (by kernel_rfl) (by kernel_rfl) H.out.drew (H.out.fresh) ?_ ?_
 ·refine⟨?_,?_,?_,?_,?_,?_,?_,?_,?_,trivial⟩
  ·exact⟨⟨_,rfl⟩,fun a' u K0 R hS hr ho h=>a0o a0c (.tmp 9) rfl ((ho 9 (by decide)).trans rfl) (hS.s (q9,n20) (by simp)) rfl (h u (Kept.refl _ _))⟩
  ·refine⟨⟨_,rfl⟩,fun a' u K0 R hS hr ho h=>?_⟩;refine a0n rfl a3e (vs:=#[el n20,.int .i64 (20:Nat)]) ?_ (c_qe.out u) h;have h0:=hr 0 (el n20) 33 _ rfl rfl rfl ⟨⟨0,.data⟩,by simp,rfl,rfl⟩;simp [Act.eval]at h0 ⊢;exact h0
  ·exact⟨⟨_,rfl⟩,fun a' u K0 R hS hr ho h=>a0o a0c (.tmp 9) rfl ((ho 9 (by decide)).trans rfl) (hS.s (q9,n20) (by simp)) rfl (h u (Kept.refl _ _))⟩
  ·refine⟨⟨_,rfl⟩,fun a' u K0 R hS hr ho h=>?_⟩;refine a0n rfl a1e (vs:=#[el qe,el n20]) ?_ (c_qf.out u) h;have h0:=hr 1 (el qe) 34 _ rfl rfl rfl ⟨⟨1,.data⟩,by simp,rfl,rfl⟩;have h1:=hr 2 (el n20) 35 _ rfl rfl rfl ⟨⟨2,.data⟩,by simp,rfl,rfl⟩;simp [Act.eval]at h0 h1 ⊢;exact⟨h0,h1⟩
  ·refine⟨⟨_,rfl⟩,fun a' u K0 R hS hr ho h=>?_⟩;refine a0n rfl a3e (vs:=#[el qf,.int .i64 (10:Nat)]) ?_ (c_qg.out u) h;have h0:=hr 3 (el qf) 36 _ rfl rfl rfl ⟨⟨3,.data⟩,by simp,rfl,rfl⟩;simp [Act.eval]at h0 ⊢;exact h0
  ·exact⟨⟨_,rfl⟩,fun a' u K0 R hS hr ho h=>a0o a0c (.tmp 8) rfl ((ho 8 (by decide)).trans rfl) (hS.s (q8,n10) (by simp)) rfl (h u (Kept.refl _ _))⟩
  ·refine⟨⟨_,rfl⟩,fun a' u K0 R hS hr ho h=>?_⟩;refine a0n rfl a1e (vs:=#[el qg,el n10]) ?_ (c_n50.out u) h;have h0:=hr 4 (el qg) 37 _ rfl rfl rfl ⟨⟨4,.data⟩,by simp,rfl,rfl⟩;have h1:=hr 5 (el n10) 38 _ rfl rfl rfl ⟨⟨5,.data⟩,by simp,rfl,rfl⟩;simp [Act.eval]at h0 h1 ⊢;exact⟨h0,h1⟩
  ·exact⟨⟨_,rfl⟩,rfl,a1b⟩
  ·exact⟨rfl,⟨⟨7,.data⟩,by simp,rfl,rfl⟩,⟨⟨6,.data⟩,by simp,rfl,rfl⟩,_,_,_,_,_,_,_,_,rfl,rfl,rfl,rfl,rfl,rfl,rfl,a0c,rfl,rfl,a0u _⟩
 intro γ r7 hS hγ hne hput;have hl:=Nat.le_trans H.out.k.size (hγ 7 _ _ rfl);have b:=hput 8 7 6 _ _ _ rfl rfl;generalize e7:γ 7=q10 at *;simp [a1f,VK,List.range,List.range.loop,Act.put,e7];have H:=hjd (hS.cons b hl);clear b hl hput hne hγ hS e7;go_wp2_with fail;refine a2m (by kernel_rfl) [.val (el n50),.val (el qh),.val (el n50),.val (el n100),.new 70 (el a0j),.put 4 3 (uv (fam 5 n100)).toArray] (Els w3 [(q10,n50),(q9,n20),(q8,n10),(q7,n5),(q6,elev),(q5,nine),(q4,two)]) (by kernel_rfl) (by kernel_rfl) H.out.drew (H.out.fresh) ?_ ?_
 ·refine⟨?_,?_,?_,?_,?_,?_,trivial⟩
  ·exact⟨⟨_,rfl⟩,fun a' u K0 R hS hr ho h=>a0o a0c (.tmp 10) rfl ((ho 10 (by decide)).trans rfl) (hS.s (q10,n50) (by simp)) rfl (h u (Kept.refl _ _))⟩
  ·refine⟨⟨_,rfl⟩,fun a' u K0 R hS hr ho h=>?_⟩;refine a0n rfl a3e (vs:=#[el n50,.int .i64 (50:Nat)]) ?_ (c_qh.out u) h;have h0:=hr 0 (el n50) 40 _ rfl rfl rfl ⟨⟨0,.data⟩,by simp,rfl,rfl⟩;simp [Act.eval]at h0 ⊢;exact h0
  ·exact⟨⟨_,rfl⟩,fun a' u K0 R hS hr ho h=>a0o a0c (.tmp 10) rfl ((ho 10 (by decide)).trans rfl) (hS.s (q10,n50) (by simp)) rfl (h u (Kept.refl _ _))⟩
  ·refine⟨⟨_,rfl⟩,fun a' u K0 R hS hr ho h=>?_⟩;refine a0n rfl a1e (vs:=#[el qh,el n50]) ?_ (c_n100.out u) h;have h0:=hr 1 (el qh) 41 _ rfl rfl rfl ⟨⟨1,.data⟩,by simp,rfl,rfl⟩;have h1:=hr 2 (el n50) 42 _ rfl rfl rfl ⟨⟨2,.data⟩,by simp,rfl,rfl⟩;simp [Act.eval]at h0 h1 ⊢;exact⟨h0,h1⟩
  ·exact⟨⟨_,rfl⟩,rfl,a1b⟩
  ·exact⟨rfl,⟨⟨4,.data⟩,by simp,rfl,rfl⟩,⟨⟨3,.data⟩,by simp,rfl,rfl⟩,_,_,_,_,_,_,_,_,rfl,rfl,rfl,rfl,rfl,rfl,rfl,a0c,rfl,rfl,a0u _⟩
 intro γ r8 hS hγ hne hput;have hl:=Nat.le_trans H.out.k.size (hγ 4 _ _ rfl);have b:=hput 5 4 3 _ _ _ rfl rfl;generalize e7:γ 4=q11 at *;simp [a1f,VK,List.range,List.range.loop,Act.put,e7];have H:=hjd (hS.cons b hl);clear b hl hput hne hγ hS e7;go_wp2_with fail;have H:=hjd (H.out.fin B2.out B3.out D.out.2.2.1);refine Txt.a1k [0,2,5,7] (Fin w3 g2 g3 [(q11,n100),(q10,n50),(q9,n20),(q8,n10),(q7,n5),(q6,elev),(q5,nine),(q4,two)]) [[_,_],[_,_],[_],[_,_],[_,_],[_],[]] (by kernel_rfl) (by kernel_rfl) rfl (H.out.kept (Kept.refl [] _).drew) (Txt.a0e ?_);have H:=hjd (H.out.kept (Kept.refl [] r8).drew);obtain⟨f2,hf2⟩:=H.out.b2;obtain⟨f3,hf3⟩:=H.out.b3;clear hf2 hf3;go_wp2_with (first
  | (with_reducible refine a0d (o:=⟨some 44,_,_,_,_,_⟩) a0c rfl (.tmp 11) rfl rfl (H.out.s (q11,n100) (by simp)) rfl ?_)
  | (go_at_call 155;refine(c_qi.out _).mono ?_;rintro e u_qi ⟨rfl,kk⟩;have H:=hjd (H.out.kept kk);clear kk))
 refine⟨rfl,H.out,Txt.a0e ?_⟩;go_wp2_with (first
  | (with_reducible refine a0d (o:=⟨some 46,_,_,_,_,_⟩) a0c rfl (.tmp 11) rfl rfl (H.out.s (q11,n100) (by simp)) rfl ?_)
  | (go_at_call 99;refine(c_qj.out _).mono ?_;rintro e u_qj ⟨rfl,kk⟩;have H:=hjd (H.out.kept kk);clear kk))
 refine⟨rfl,H.out,Txt.a0e ?_⟩;go_wp2_with (first
  | (go_at_call 155;refine(c_qk.out _).mono ?_;rintro e u_qk ⟨rfl,kk⟩;have H:=hjd (H.out.kept kk);clear kk))
 refine⟨rfl,H.out,Txt.a0e ?_⟩;go_wp2_with (first
  | (with_reducible refine a0d (o:=⟨some 49,_,_,_,_,_⟩) a0c rfl (.tmp 10) rfl rfl (H.out.s (q10,n50) (by simp)) rfl ?_)
  | (go_at_call 99;refine(c_nn.out _).mono ?_;rintro e u_nn ⟨rfl,kk⟩;have H:=hjd (H.out.kept kk);clear kk))
 refine⟨rfl,H.out,Txt.a0e ?_⟩;go_wp2_with (first
  | (with_reducible refine a0d (o:=⟨some 51,_,_,_,_,_⟩) a0c rfl (.tmp 6) rfl rfl (H.out.s (q6,elev) (by simp)) rfl ?_)
  | (obtain⟨f2,hf2⟩:=H.out.b2;(with_reducible refine a0a (o:=⟨none,.store 70 (.tmp 2) (.tmp 50),_,_,_,_⟩) a0c rfl (.tmp 2) (.tmp 50) rfl rfl rfl hf2 rfl rfl (a0u _) ?_);clear hf2;intro v2 b2 k2;have H:=hjd (H.out.put2 b2 k2);have C2:=hjd b2;clear b2 k2))
 refine⟨rfl,H.out,Txt.a0e ?_⟩;go_wp2_with (first
  | (obtain⟨f3,hf3⟩:=H.out.b3;(with_reducible refine a0a (o:=⟨none,.store 70 (.tmp 3) (.tmp 51),_,_,_,_⟩) a0c rfl (.tmp 3) (.tmp 51) rfl rfl rfl hf3 rfl rfl (a0u _) ?_);clear hf3;intro v3 b3 k3;have C2:=hjd (C2.out.kept k3 (by simpa using D.out.2.2.1));have H:=hjd (H.out.put3 b3 k3);have C3:=hjd b3;clear b3 k3))
 refine⟨rfl,H.out,Txt.a0e ?_⟩;go_wp2_with fail;refine⟨rfl,H.out,Txt.a0w ⟨⟨by kernel_rfl,?_⟩,?_⟩⟩
 ·intro j hj o ho _;have hj2:j=0∨j=2∨j=5∨j=7:=by simpa using hj
  rcases hj2 with rfl | rfl | rfl | rfl <;> cases ho
  ·exact⟨44,rfl,fun u hu=>a1c a0c (.tmp 11) rfl rfl (hu.s (q11,n100) (by simp)) rfl⟩
  ·exact⟨46,rfl,fun u hu=>a1c a0c (.tmp 11) rfl rfl (hu.s (q11,n100) (by simp)) rfl⟩
  ·exact⟨49,rfl,fun u hu=>a1c a0c (.tmp 10) rfl rfl (hu.s (q10,n50) (by simp)) rfl⟩
  ·exact⟨51,rfl,fun u hu=>a1c a0c (.tmp 6) rfl rfl (hu.s (q6,elev) (by simp)) rfl⟩
 go_wp2_with fail
 exact e0y a0c rfl rfl rfl C2.out rfl C3.out rfl rfl ⟨rfl,(D.out.2.2.2).fresh H.out.k (fun x hx=>by simp at hx;rcases hx with rfl | rfl;exact D.out.1;exact D.out.2.1)⟩
end Go.Proofs.YtdbngnlpafcogaaGreat
