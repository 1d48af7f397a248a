/-
  Digests: Sum512 of known bytes, so that the kernel can reckon it.
  The sign: what was signed is not right for another message, reckoned by the kernel.
  The ring: the first lines' signature, reckoned by the kernel.
  The certificates' laws: the seeds of so many replicas (Seeds).
  The certificates' laws: the replicas' keys, reckoned by the kernel; they differ.
  The certificates' laws: a ring of so many replicas, and their seeds (Of).
  A statement that draws its order: as wp_tailR, and an operation may write into what is its own.
  A statement that draws its order: as wp_tailS, and operations may be guarded.
  Certificates: what a drawn statement's operations do, one by one.
  A statement that draws its order: what its operations do, one by one, for any program.
-/
import Derived.Test.YtdbngnlpafcogaaGreatZcJ00
import Derived.Test.YtdbngnlpafcogaaGreatZcJ02
import Derived.Test.YtdbngnlpafcogaaGreatZcJ04
import Derived.Test.YtdbngnlpafcogaaGreatZcFam
set_option maxRecDepth 100000
namespace Go.Proofs.YtdbngnlpafcogaaGreat.Q
open Go.RowKit Go.Mem Go.Txt
def fcN{α:Type}(n:Nat)(f:Nat→α):α:=match n with
 | 0=>f 0
 | k + 1=>f (k + 1)
theorem d7e{α:Type}(n:Nat)(f:Nat→α):fcN n f=f n:=by cases n <;> rfl
def fcB{α:Type}(x:B64)(f:B64→α):α:=fcN x.toNat fun n=>f (BitVec.ofNat 64 n)
theorem b1m{α:Type}(x:B64)(f:B64→α):fcB x f=f x:=by unfold fcB;rw [d7e,BitVec.ofNat_toNat,BitVec.setWidth_eq]
def e1j(w:List B64):B64:=ls1 (w.getD 14 0) + w.getD 9 0 + ls0 (w.getD 1 0) + w.getD 0 0
def goB:List Nat→List B64→B64→B64→B64→B64→B64→B64→B64→B64→List B64
 | [],_,a,b,c,d,e,f,g,h=>[a,b,c,d,e,f,g,h]
 | k :: ks,w,a,b,c,d,e,f,g,h=>
   fcB (h + us1 e + chB e f g + n64 k + w.getD 0 0) fun t=>
   fcB (t + (us0 a + mjB a b c)) fun x=>
   fcB (d + t) fun y=>
   fcB (e1j w) fun z=>goB ks (w.tail ++ [z]) x a b c y e f g
theorem c2y(p:Nat→UInt8)(h0:Nat→B64):∀(ks:List Nat) (t:Nat) (w:List B64) (a b c d e f g h:B64),(∀j,j < ks.length→ks.getD j 0=a2f.getD (t + j) 0)→w.length=16→(∀i,i < 16→w.getD i 0=sch p (t + i))→
 a3z p h0 t 0=a→a3z p h0 t 1=b→a3z p h0 t 2=c→a3z p h0 t 3=d→a3z p h0 t 4=e→a3z p h0 t 5=f→a3z p h0 t 6=g→a3z p h0 t 7=h→
 goB ks w a b c d e f g h=(List.range 8).map (a3z p h0 (t + ks.length))
 | [],t,w,_,_,_,_,_,_,_,_,_,_,_,e0,e1,e2,e3,e4,e5,e6,e7=>by
   subst e0 e1 e2 e3 e4 e5 e6 e7;rfl
 | k :: ks,t,w,_,_,_,_,_,_,_,_,hk,hl,hw,e0,e1,e2,e3,e4,e5,e6,e7=>by
   unfold goB;rw [b1m,b1m,b1m,b1m];have ek:k=a2f.getD t 0:=by have:=hk 0 (by simp);simpa using this
   have ew:w.getD 0 0=sch p t:=hw 0 (by decide);have en:e1j w=sch p (t + 16):=by
    unfold e1j;rw [hw 14 (by decide),hw 9 (by decide),hw 1 (by decide),hw 0 (by decide),c2q p (t:=t + 16) (by omega)];rfl
   have hk2:∀j,j < ks.length→ks.getD j 0=a2f.getD (t + 1 + j) 0:=fun j hj=>by
    have:=hk (j + 1) (by simp;omega);rw [show t + 1 + j=t + (j + 1)from by omega,←this];simp
   have hw2:∀i,i < 16→(w.tail ++ [e1j w]).getD i 0=sch p (t + 1 + i):=fun i hi=>by
    by_cases h15:i=15
    ·subst h15;rw [List.getD_eq_getElem?_getD,List.getElem?_append_right (by simp [hl]),show t + 1 + 15=t + 16 from by omega,←en];simp [hl]
    ·have hi2:i + 1 < 16:=by omega
     have:=hw (i + 1) hi2;rw [show t + 1 + i=t + (i + 1)from by omega,←this,List.getD_eq_getElem?_getD,List.getElem?_append_left (by simp [hl];omega),List.getD_eq_getElem?_getD];simp
   have r0:a3z p h0 (t + 1) 0=a3z p h0 t 7 + us1 (a3z p h0 t 4) + chB (a3z p h0 t 4) (a3z p h0 t 5) (a3z p h0 t 6) + n64 k + w.getD 0 0 + (us0 (a3z p h0 t 0) + mjB (a3z p h0 t 0) (a3z p h0 t 1) (a3z p h0 t 2)):=by
    rw [ek,ew];rfl
   have r4:a3z p h0 (t + 1) 4=a3z p h0 t 3 + (a3z p h0 t 7 + us1 (a3z p h0 t 4) + chB (a3z p h0 t 4) (a3z p h0 t 5) (a3z p h0 t 6) + n64 k + w.getD 0 0):=by
    rw [ek,ew];rfl
   subst e0 e1 e2 e3 e4 e5 e6 e7;refine(c2y p h0 ks (t + 1) _ _ _ _ _ _ _ _ _ hk2 (by simp [hl]) hw2 r0 rfl rfl rfl r4 rfl rfl rfl).trans ?_;rw [List.length_cons,show t + 1 + ks.length=t + (ks.length + 1)from by omega]
theorem d3e:a2f.length=80:=by decide +kernel
def e7s(p:Nat→UInt8)(h:List B64):List B64:=
 (List.zipWith (· + ·) h (goB a2f ((List.range 16).map (wrd p)) (h.getD 0 0) (h.getD 1 0) (h.getD 2 0) (h.getD 3 0) (h.getD 4 0) (h.getD 5 0) (h.getD 6 0) (h.getD 7 0)))
theorem c4g(p:Nat→UInt8)(h:Nat→B64):e7s p ((List.range 8).map h)=(List.range 8).map (blk p h):=by
 unfold e7s;have hz:∀i,i < 8→((List.range 8).map h).getD i 0=h i:=fun i hi=>by simp [List.getD_eq_getElem?_getD,hi]
 rw [hz 0 (by decide),hz 1 (by decide),hz 2 (by decide),hz 3 (by decide),hz 4 (by decide),hz 5 (by decide),hz 6 (by decide),hz 7 (by decide)]
 have q:=c2y p h a2f 0 ((List.range 16).map (wrd p)) (h 0) (h 1) (h 2) (h 3) (h 4) (h 5) (h 6) (h 7) (fun j _=>by rw [Nat.zero_add]) (by simp) (fun i hi=>by
  rw [Nat.zero_add,c1q p hi];simp [List.getD_eq_getElem?_getD,hi]) rfl rfl rfl rfl rfl rfl rfl rfl
 rw [q,d3e];rfl
def b9w(b:List UInt8):Nat→List B64
 | 0=>a6u.map n64
 | n + 1=>e7s (fun j=>b.getD (128 * n + j) 0) (b9w b n)
theorem b1x(b:List UInt8):∀n,b9w b n=(List.range 8).map (b0r b n)
 | 0=>rfl
 | n + 1=>by unfold b9w;rw [b1x b n,c4g];rfl
def e5c(m:List UInt8):List UInt8:=(List.range 64).map fun j=>UInt8.ofNat (((b9w (pad m) ((pad m).length / 128)).getD (j / 8) 0).toNat / 2 ^ (56 - 8 * (j % 8)))
theorem b4u(m:List UInt8):sha m=e5c m:=by
 unfold sha e5c c3k;apply List.map_congr_left;intro j hj;have hj2:j < 64:=List.mem_range.1 hj;have h8:j / 8 < 8:=by omega
 rw [b1x];simp [List.getD_eq_getElem?_getD,h8]
end Go.Proofs.YtdbngnlpafcogaaGreat.Q
namespace Go.Proofs.YtdbngnlpafcogaaGreat
open Go.RowKit Go.Mem Go.Txt
def ptK(k x y:Nat):Bool:=decide (k < 2 ^ 255) && decide (x < PP) && decide (y < PP) && decide (x * (mN bxN byN 255 k).z % PP=(mN bxN byN 255 k).x % PP) && decide (y * (mN bxN byN 255 k).z % PP=(mN bxN byN 255 k).y % PP)
def eK(x y:Nat):Nat:=y + if x % 2=1 then a4k else 0
theorem d7b{k x y:Nat}(h:ptK k x y=true):enc (Ed.Pt.mul k BB)=eK x y:=by
 unfold ptK at h;simp only [Bool.and_eq_true,decide_eq_true_eq]at h;obtain⟨⟨⟨⟨h1,h2⟩,h3⟩,h4⟩,h5⟩:=h;obtain⟨e1,e2⟩:=(e7j (Q:=BB) rfl rfl 255 k h1).plain h4 h5;unfold enc eK;rw [e1,e2];show y % PP + (if x % PP % 2=1 then a4k else 0)=_;rw [Nat.mod_eq_of_lt h2,Nat.mod_eq_of_lt h3]
def numK(m:List UInt8):Nat:=leV (Q.e5c m) % LL
theorem c4x(m:List UInt8):c0x m=numK m:=by unfold c0x numK;rw [Q.b4u,zleV,zLL]
def d2t(bs m m2 D AB RB:List UInt8)(a x y r x2 y2:Nat):Bool:=
 decide (Q.e5c bs=D) && decide (leV (a3n D)=a) && ptK a x y && decide (le (eK x y) 32=AB) && decide (numK (D.drop 32 ++ m)=r) && ptK r x2 y2 && decide (le (eK x2 y2) 32=RB) && decide (numK (RB ++ (AB ++ m2)) * (a % LL) % LL≠numK (RB ++ (AB ++ m)) * (a % LL) % LL)
theorem b3y{bs m m2 D AB RB:List UInt8}{a x y r x2 y2:Nat}(h:d2t bs m m2 D AB RB a x y r x2 y2=true):c3r (b6l bs)=AB∧RS bs m=RB:=by
 unfold d2t at h;simp only [Bool.and_eq_true,decide_eq_true_eq]at h;obtain⟨⟨⟨⟨⟨⟨⟨h1,h2⟩,h3⟩,h4⟩,h5⟩,h6⟩,h7⟩,h8⟩:=h;have eD:Q.sha bs=D:=(Q.b4u bs).trans h1;have ea:c6s bs=a:=by unfold c6s b6l;rw [eD,h2]
 have er:rS bs m=r:=by unfold rS;rw [eD,c4x,h5]
 refine⟨?_,?_⟩
 ·show le (enc (Ed.Pt.mul (c6s bs) BB)) 32=AB;rw [ea,d7b h3,h4]
 ·rw [d4g,er,d7b h6,h7]
theorem kr_no{bs m m2 D AB RB:List UInt8}{a x y r x2 y2:Nat}(h:d2t bs m m2 D AB RB a x y r x2 y2=true):okV (c3r (b6l bs)) (a9c bs m) m2=false:=by
 obtain⟨eA,eR⟩:=b3y h;unfold d2t at h;simp only [Bool.and_eq_true,decide_eq_true_eq]at h;obtain⟨⟨⟨⟨⟨⟨⟨h1,h2⟩,h3⟩,h4⟩,h5⟩,h6⟩,h7⟩,h8⟩:=h;have eD:Q.sha bs=D:=(Q.b4u bs).trans h1;have ea:c6s bs=a:=by unfold c6s b6l;rw [eD,h2]
 refine e4m ?_;unfold hS;rw [eR,eA,ea,c4x,c4x];exact h8
end Go.Proofs.YtdbngnlpafcogaaGreat
namespace Go.Proofs.YtdbngnlpafcogaaGreat
open Go.RowKit Go.Mem Go.Txt
end Go.Proofs.YtdbngnlpafcogaaGreat
namespace Go.Proofs.YtdbngnlpafcogaaGreat
open Go.RowKit Go.Mem Go.Txt
def a6r(i:Nat):List UInt8:=UInt8.ofNat (i + 1) :: 2 :: 7 :: a0m 29
def a7a(n:Nat):List (List UInt8):=(List.range n).map a6r
theorem b5x(n:Nat):a7a (n + 1)=a7a n ++ [a6r n]:=by
 unfold a7a;rw [List.range_succ,List.map_append];rfl
theorem b8e(n:Nat):(a7a n).length=n:=by simp [a7a]
theorem a9l(i:Nat):(a6r i).length=32:=rfl
theorem d0o(n:Nat):∀x∈a7a n,x.length=32:=by
 intro x hx;obtain⟨i,_,rfl⟩:=List.mem_map.1 hx;rfl
theorem lit127(x:UInt8):Value.agg ((((bv (a0m 32)).set 0 (.int .u8 (x.toNat:Int))).set 1 (.int .u8 2)).set 2 (.int .u8 7)).toArray=ab (x :: 2 :: 7 :: a0m 29):=by rfl
set_option maxHeartbeats 3200000 in
theorem d0a{Z:List UInt8}{sd:Nat→List UInt8}{sds:Nat→List (List UInt8)}(n:Nat)(hn:n≤7)(w:World)(hzl:Z.length=32)(l0:Value.agg #[.int .u8 0,.int .u8 0,.int .u8 0,.int .u8 0,.int .u8 0,.int .u8 0,.int .u8 0,.int .u8 0,.int .u8 0,.int .u8 0,.int .u8 0,.int .u8 0,.int .u8 0,.int .u8 0,.int .u8 0,.int .u8 0,.int .u8 0,.int .u8 0,.int .u8 0,.int .u8 0,.int .u8 0,.int .u8 0,.int .u8 0,.int .u8 0,.int .u8 0,.int .u8 0,.int .u8 0,.int .u8 0,.int .u8 0,.int .u8 0,.int .u8 0,.int .u8 0]=ab Z)
 (hl:∀i,(sd i).length=32) (h0:sds 0= []) (hs:∀i,sds (i + 1)=sds i ++ [sd i]) (hlen:∀i,(sds i).length=i)
 (el:∀j:Nat,j < 7→Value.agg ((((bv Z).set 0 (.int .u8 ((j:Int) + 1))).set 1 (.int .u8 2)).set 2 (.int .u8 7)).toArray=ab (sd j)) :
 Calls Tryz.prog 143 #[.int .i64 (n:Int),.int .u8 2] w fun e w'=>∃v',e= .returned v'∧(Ow w' 22 32 v' n ((sds n).flatMap bv)∧∀k,v'.ownBlock=some k→w.heap.size≤k)∧Kept [] w w':=by
 have hzn:¬Z= []:=by
  intro h;rw [h]at hzl
  cases hzl
 replace hl:=hjd hl;replace h0:=hjd h0;replace hs:=hjd hs;replace hlen:=hjd hlen;replace el:=hjd el;go_enter Tryz.func143,Tryz.ntmps143;go_wp2_with fail;go_loopg [5,6] n (fun f x5 x6 wk=>∃j:Nat,j≤n∧f + j=n∧x6= .int .i64 (j:Int)∧Hid (Ow wk 22 32 x5 j ((sds j).flatMap bv)∧∀k,x5.ownBlock=some k→w.heap.size≤k)∧Hid (Kept [] w wk));case atStart=>exact⟨0,Nat.zero_le _,by omega,rfl,hjd (by rw [h0.out];exact⟨Ow.nil _ _ _,fun k h=>by cases h⟩),hjd (Kept.refl _ _)⟩
 case round=>
  obtain⟨j,hj,hf,rfl,hr,hwk⟩:=hrel;by_cases hlt:j < n
  ·have i1:=el.out j (by omega);have ew:((j:Int) + 1) % 256=(j:Int) + 1:=by omega
   have lk:=hjd (hl.out j);have O:=hjd hr.out.1;have hO:=O.out;obtain⟨XA,xc,rfl,_⟩:=hO.shape;clear hO;have F:=hjd hr.out.2;clear hr;go_wp2_with (first
    | ((with_reducible refine a0f 18 ?_);(refine a1a (o:=⟨some 18,_,_,_,_,_⟩) (v0:=ab (sd j)) (cells:=(bv (sd j)).toArray) rfl b0w rfl rfl (by decide) rfl (by simpa using lk.out) ?_);intro g18 w18 m18;have R18:=hjd (show Rd w18 32 (.slice (some ⟨g18,0,none⟩) 1 1) [sd j].length ([sd j].flatMap bv)from d3g m18.blk lk.out);replace O:=hjd (O.out.a0k m18.kept);replace hwk:=hjd (hwk.out.a0g m18.kept);clear m18)
    | (at_builtin;refine a1q b0w rfl (.tmp 12) (.tmp 18) rfl rfl (xs:=(sds j).flatMap bv) (n:=j) (m:=[sd j].length) (news:=[sd j].flatMap bv) O.out rfl R18.out (b9v [sd j]) (by simp;omega) (by simp;omega) ?_;intro x19 w19 o19 k19 b19;have KF:=hjd (hwk.out.fresh k19 (fun k hk=>F.out k (Option.mem_toList.1 hk)))
       have F2:=hjd (show∀k,x19.ownBlock=some k→w.heap.size≤k from fun k hk=>by
        rcases b19 with b | b
        ·exact F.out k (b.symm.trans hk)
        ·have:=hwk.out.size;have e:some w18.heap.size=some k:=b.symm.trans hk
         cases e
         exact this)
       have O2:=hjd (show Ow w19 22 32 x19 (j + 1) ((sds (j + 1)).flatMap bv)from by rw [hs.out j];simpa using o19);clear o19 k19 b19))
   go_roundg (n - (j + 1));case measure=>omega
   case rel=>exact⟨j + 1,by omega,by omega,by go_num,hjd ⟨O2.out,F2.out⟩,KF⟩
  ·obtain rfl:j=n:=by omega
   have hr2:=hjd hr.out;clear hr;go_wp2_with fail;go_ret;exact⟨_,rfl,hr2.out,hwk.out⟩
theorem d5j(n:Nat)(hn:n≤7)(w:World) :
 Calls Tryz.prog 143 #[.int .i64 (n:Int),.int .u8 2] w fun e w'=>∃v',e= .returned v'∧(Ow w' 22 32 v' n ((a7a n).flatMap bv)∧∀k,v'.ownBlock=some k→w.heap.size≤k)∧Kept [] w w':=by
 refine d0a (Z:=a0m 32) (sd:=a6r) (sds:=a7a) n hn w rfl lit0_v a9l rfl b5x b8e fun j hj=>?_
 have:=lit127 (UInt8.ofNat (j + 1));have e:(UInt8.ofNat (j + 1)).toNat=j + 1:=by rw [UInt8.toNat_ofNat'];omega
 rw [e]at this;exact this
end Go.Proofs.YtdbngnlpafcogaaGreat
namespace Go.Proofs.YtdbngnlpafcogaaGreat
open Go.RowKit Go.Mem Go.Txt
theorem kr8_0:d2t (a6r 0) (a5o 5 [97]) (a5o 4 [97]) [58,180,97,98,220,179,71,157,94,50,93,119,53,14,68,171,201,38,148,147,105,196,233,96,98,80,133,16,153,13,68,163,250,117,20,121,77,248,129,109,199,175,188,212,248,40,97,112,77,23,179,212,62,152,16,11,154,244,196,67,38,38,94,227] [186,95,247,28,161,115,243,171,244,106,18,134,149,47,143,198,24,10,247,114,164,214,195,244,155,227,240,154,80,239,217,157] [82,245,212,201,75,88,31,19,178,3,159,99,131,93,109,141,50,54,127,188,116,134,203,228,93,236,69,69,58,162,150,118] 44899211459462489800551540803633879581235559420758889561927279231776925529144 35103920123893895158659065846685089641054638479636809410977560355098931461619 13502130112461439923427871761118707677709703915132224384896296628635194318778 6140023931584516240350668902052441425280013093987908600771547676899228059132 7850276070702741419686575429455090728634022077799536407592998840246570510198 53639062846422591149063598823955922927787974229875148990446882085702766753106=true:=by decide +kernel
theorem kr8_1:d2t (a6r 1) [97] [98] [17,154,69,64,150,60,19,152,228,254,217,5,241,222,167,197,46,33,213,218,193,88,62,254,216,94,48,66,222,42,209,18,246,187,8,35,22,101,239,168,168,157,135,226,249,238,225,225,242,89,197,238,162,215,128,224,242,17,205,194,204,18,214,39] [148,8,82,123,231,209,221,120,8,12,134,125,236,224,244,38,143,255,1,56,177,47,108,125,189,163,7,152,162,23,25,253] [27,202,189,153,188,28,199,168,105,146,107,3,35,99,131,119,67,209,222,202,202,238,55,6,220,31,123,79,213,80,7,134] 37459220485791761201693394478579418170293334447921505717062553613588660328976 52188578274283222755421212592361796279303737144262304787654101223364010326599 56583440373215705503220660159313991732674128978103444451512074162421873379476 4230784476132031711211263734140470354404642494705293965226851875653767255975 899490727737994027635218994987095654579249948655713846398478541336253870773 2726802911499751871884174604987745293225901549969330087126755406375422904859=true:=by decide +kernel
theorem kr8_2:d2t (a6r 2) [97] [98] [122,187,179,236,56,6,31,136,157,128,70,93,92,216,233,196,59,164,53,24,227,15,36,231,61,139,43,234,51,203,233,127,240,241,89,248,156,202,34,107,66,102,159,255,130,159,75,163,239,122,92,124,85,145,94,96,168,127,229,196,62,136,127,10] [119,247,2,254,233,106,174,85,77,10,28,1,122,87,128,86,217,16,236,107,164,56,45,196,22,240,52,221,235,149,233,91] [65,14,253,179,112,237,206,54,96,98,211,192,94,240,55,172,44,92,47,108,206,192,185,141,69,135,83,62,134,236,85,201] 57856809590294862558729055533859134318298849888456254260800365305302594337656 27536514411397675995550435250555569805386005036623248401545449553711502135872 41573179306259537291203498047567140604480488081806545206526695793749179692919 2798769660924091219441316122637908697076028850553897770298223198378948158751 39736827126376326525516511790172282678041499043187169466244002189739611907759 33170652378419028666752867932524282183636601129655955971019419225669305699905=true:=by decide +kernel
theorem kr8_3:d2t (a6r 3) [97] [98] [228,199,81,128,198,177,16,218,210,14,164,168,226,62,162,202,236,5,27,255,190,201,37,116,30,27,221,228,50,12,177,57,29,5,155,32,222,234,41,217,233,60,56,168,156,152,113,37,251,147,184,253,186,87,223,247,103,128,144,112,197,172,158,160] [86,213,62,252,206,141,88,46,210,110,243,154,165,133,40,249,240,244,24,148,58,110,161,198,31,55,5,153,252,136,6,80] [55,211,218,23,115,138,34,46,65,148,65,173,22,62,248,117,88,1,178,65,56,98,99,155,183,205,26,102,134,109,115,63] 55042670802096662069517119348312776069851910474011583846643475412220225112032 45454921696805135800272475944237593973251493544682089272084200333448355921062 36196574416574631101518648948232699056253058624202184021669425352861414249814 832114744947925180053623870127503596413006926018714026072464241241420390860 41576413966810097742756706386809293292451913709509532432427914860593068758124 28699652786932830339694283735445682470815648713597815897735471987475005231927=true:=by decide +kernel
theorem kr8_4:d2t (a6r 4) [97] [98] [80,1,178,161,153,163,100,190,28,108,119,215,35,132,236,247,215,31,162,177,11,250,137,158,50,72,231,6,58,167,64,109,141,178,0,144,232,98,209,51,11,176,164,7,74,11,219,42,71,25,36,20,195,182,172,75,8,44,35,158,105,199,162,180] [249,235,95,204,155,29,3,40,48,113,100,182,87,108,9,192,129,234,118,1,237,44,54,54,4,206,192,218,4,206,207,99] [209,137,75,25,178,133,66,14,203,190,223,220,33,254,250,134,93,90,248,186,56,221,78,199,206,125,133,231,39,240,97,241] 49416332863765691304153554655022700467342430817205485498069325592916804108624 33081500460874784920961742500510519436845918749963638309053425291909510333158 45146131242777118388097279192068295866930733748470309792420940534178495065081 2002704574105596118080370118688132758714830309564755127176913036611517924181 56177572528407580153187679975813907746205531490474608105352764398598918749445 51284393550135809487532295870751989414454391336340901450937874061146448431569=true:=by decide +kernel
theorem kr8_5:d2t (a6r 5) [97] [98] [96,1,3,176,160,142,157,117,248,100,163,228,70,41,120,127,239,106,167,245,33,169,133,149,138,254,188,119,102,225,58,69,108,77,87,140,101,198,129,96,205,237,132,104,6,104,105,243,186,18,123,117,244,255,186,209,138,65,119,12,248,150,27,71] [82,70,118,49,223,217,255,97,230,42,44,126,44,253,224,191,180,25,62,9,159,171,188,227,217,31,10,112,216,134,65,142] [198,115,123,216,228,100,196,100,7,238,50,23,182,239,91,86,57,180,182,192,187,67,5,61,202,140,181,23,121,135,168,26] 31313619337455025470014584870842569592135449972386053527472705165879566074208 32426195261231511690302017248804903118325559482664972720978747691172361333739 6448155608534416069801415856609472121939678711873573376096987669344390891090 1537980386925098756051443995626202343611276282223524187939293919867007011869 14293196836886390022644422167194151446222748377999460724121368072856486038774 12057899370454926146807707560846344501474019604095609700789428978525065147334=true:=by decide +kernel
theorem kr8_6:d2t (a6r 6) [97] [98] [3,244,28,204,145,233,54,45,214,252,215,188,205,5,93,15,132,16,59,88,12,35,130,139,213,78,224,235,215,255,36,175,83,169,200,128,66,139,176,252,250,144,238,65,33,114,172,174,109,217,187,17,97,104,221,254,204,176,71,199,253,74,92,50] [112,231,56,177,42,53,182,206,94,178,99,72,164,235,154,232,96,105,77,159,241,117,218,72,220,54,150,134,197,81,61,36] [172,169,186,235,100,32,226,223,35,149,179,136,91,6,32,136,48,243,88,28,137,60,243,161,29,151,165,144,17,204,8,76] 50272098453622219455389115180518222384344242105135165794889111794690123691008 17786600702330214095276788538466012255880826539105510570354361266140626488146 16391604586686296551776411936515539519228207727864842899315457713542193014640 1364632766017888246515006838481920715784518106017573232627332863319422253688 46857071507065875802104149801483953550599555369839278811902914096073743430910 34391319698653401104496189759829903932465495058926171931543585118556031461804=true:=by decide +kernel
noncomputable def b6u (i:Nat):List UInt8:=c3r (b6l (a6r i))
noncomputable def a4a (n:Nat):List (List UInt8):=(List.range n).map b6u
theorem keyQ_0:b6u 0= [186,95,247,28,161,115,243,171,244,106,18,134,149,47,143,198,24,10,247,114,164,214,195,244,155,227,240,154,80,239,217,157]:=(b3y kr8_0).1
theorem keyQ_1:b6u 1= [148,8,82,123,231,209,221,120,8,12,134,125,236,224,244,38,143,255,1,56,177,47,108,125,189,163,7,152,162,23,25,253]:=(b3y kr8_1).1
theorem keyQ_2:b6u 2= [119,247,2,254,233,106,174,85,77,10,28,1,122,87,128,86,217,16,236,107,164,56,45,196,22,240,52,221,235,149,233,91]:=(b3y kr8_2).1
theorem keyQ_3:b6u 3= [86,213,62,252,206,141,88,46,210,110,243,154,165,133,40,249,240,244,24,148,58,110,161,198,31,55,5,153,252,136,6,80]:=(b3y kr8_3).1
theorem keyQ_4:b6u 4= [249,235,95,204,155,29,3,40,48,113,100,182,87,108,9,192,129,234,118,1,237,44,54,54,4,206,192,218,4,206,207,99]:=(b3y kr8_4).1
theorem keyQ_5:b6u 5= [82,70,118,49,223,217,255,97,230,42,44,126,44,253,224,191,180,25,62,9,159,171,188,227,217,31,10,112,216,134,65,142]:=(b3y kr8_5).1
theorem keyQ_6:b6u 6= [112,231,56,177,42,53,182,206,94,178,99,72,164,235,154,232,96,105,77,159,241,117,218,72,220,54,150,134,197,81,61,36]:=(b3y kr8_6).1
theorem e4i:a4a 7= [[186,95,247,28,161,115,243,171,244,106,18,134,149,47,143,198,24,10,247,114,164,214,195,244,155,227,240,154,80,239,217,157],[148,8,82,123,231,209,221,120,8,12,134,125,236,224,244,38,143,255,1,56,177,47,108,125,189,163,7,152,162,23,25,253],[119,247,2,254,233,106,174,85,77,10,28,1,122,87,128,86,217,16,236,107,164,56,45,196,22,240,52,221,235,149,233,91],[86,213,62,252,206,141,88,46,210,110,243,154,165,133,40,249,240,244,24,148,58,110,161,198,31,55,5,153,252,136,6,80],[249,235,95,204,155,29,3,40,48,113,100,182,87,108,9,192,129,234,118,1,237,44,54,54,4,206,192,218,4,206,207,99],[82,70,118,49,223,217,255,97,230,42,44,126,44,253,224,191,180,25,62,9,159,171,188,227,217,31,10,112,216,134,65,142],[112,231,56,177,42,53,182,206,94,178,99,72,164,235,154,232,96,105,77,159,241,117,218,72,220,54,150,134,197,81,61,36]]:=by
 show [b6u 0,b6u 1,b6u 2,b6u 3,b6u 4,b6u 5,b6u 6]=_;rw [keyQ_0,keyQ_1,keyQ_2,keyQ_3,keyQ_4,keyQ_5,keyQ_6]
theorem c2f:(a4a 7).Nodup:=by
 rw [e4i];decide +kernel
theorem d1f(n:Nat)(h:n≤7):a4a n=(a4a 7).take n:=by
 unfold a4a;rw [←List.map_take,List.take_range,Nat.min_eq_left h]
theorem c4v(n:Nat)(h:n≤7):(a4a n).Nodup:=by
 rw [d1f n h];exact c2f.sublist (List.take_sublist _ _)
theorem c9n(n:Nat):a4a (n + 1)=a4a n ++ [b6u n]:=by
 unfold a4a;rw [List.range_succ,List.map_append];rfl
theorem a5f(n:Nat):(a4a n).length=n:=by simp [a4a]
theorem c8w(i:Nat):(b6u i).length=32:=b1y _
theorem d3t(n:Nat):∀x∈a4a n,x.length=32:=by
 intro x hx;obtain⟨i,_,rfl⟩:=List.mem_map.1 hx;exact c8w i
theorem c8q{n i:Nat}(h:i < n):(a4a n).getD i []=b6u i:=by
 unfold a4a;simp [List.getD_eq_getElem?_getD,h]
end Go.Proofs.YtdbngnlpafcogaaGreat
namespace Go.Proofs.YtdbngnlpafcogaaGreat
open Go.RowKit Go.Mem Go.Txt
set_option maxHeartbeats 3200000 in
theorem e4j{sd kq:Nat→List UInt8}{sds kqs:Nat→List (List UInt8)}(k n:Nat)(hk:k≤2)(hn:n=3 * k + 1)(w:World)
 (hl:∀i,(sd i).length=32) (hs:∀i,sds (i + 1)=sds i ++ [sd i]) (hkl:∀i,(kq i).length=32) (hk0:kqs 0= []) (hks:∀i,kqs (i + 1)=kqs i ++ [kq i])
 (hat:∀i,i < n→∃pre post,(sds n).flatMap bv=pre ++ (bv (sd i) ++ post)∧pre.length=i * 32)
 (cs:∀u,Calls Tryz.prog 143 #[.int .i64 (3 * (k:Int) + 1),.int .u8 2] u fun e w'=>∃v',e= .returned v'∧(Ow w' 22 32 v' n ((sds n).flatMap bv)∧∀k,v'.ownBlock=some k→u.heap.size≤k)∧Kept [] u w')
 (cp:∀i u,Calls Tryz.prog 9 #[ab (sd i)] u fun e w'=>e= .returned (ab (kq i))∧Kept [] u w')
 (cn:∀u v,Rd u 32 v n ((kqs n).flatMap bv)→Calls Tryz.prog 144 #[v] u fun e w'=>∃r b kv,e= .returned (.tuple #[.pointer (some ⟨r,0,none⟩),.int .i64 0])∧Rg w' r kv (kqs n) b (.map [])∧Kept [] u w'∧u.heap.size≤b) :
 Calls Tryz.prog 76 #[.int .i64 (k:Int)] w fun e w'=>∃r b kv sv,e= .returned (.tuple #[.pointer (some ⟨r,0,none⟩),sv])∧Rg w' r kv (kqs n) b (.map [])∧Rd w' 32 sv n ((sds n).flatMap bv)∧Kept [] w w'∧w.heap.size≤b:=by
 have hn7:n≤7:=by omega
 have hn0:=hjd (show 0 < n by omega);replace hn:=hjd hn;replace hl:=hjd hl;replace hs:=hjd hs;replace hkl:=hjd hkl;replace hk0:=hjd hk0;replace hks:=hjd hks;replace hat:=hjd hat;replace cs:=hjd cs;replace cp:=hjd cp;replace cn:=hjd cn;go_enter Tryz.func76,Tryz.ntmps76;go_wp2_with (first
  | (go_at_call 143;(with_reducible refine(cs.out _).mono ?_);rintro e v13 ⟨x13,rfl,h13,k13⟩;have S:=hjd (Rd.a6w h13.1);obtain⟨sb,so,sc,rfl,_,_⟩:=S.out.at_ hn0.out;replace k13:=hjd k13;clear h13))
 go_loopg [5,16] n (fun f x5 x16 wk=>∃j:Nat,j≤n∧f + j=n∧x16= .int .i64 (j:Int)∧Hid (Ow wk 22 32 x5 j ((kqs j).flatMap bv)∧∀k,x5.ownBlock=some k→v13.heap.size≤k)∧Hid (Kept [] v13 wk))
 case atStart=>exact⟨0,Nat.zero_le _,by omega,rfl,hjd (by rw [hk0.out];exact⟨Ow.nil _ _ _,fun k h=>by cases h⟩),hjd (Kept.refl _ _)⟩
 case round=>
  obtain⟨j,hj,hf,rfl,hr,hwk⟩:=hrel;by_cases hlt:j < n
  ·have ls:=hjd (hl.out j);have lk:=hjd (hkl.out j);have O:=hjd hr.out.1;have hO:=O.out;obtain⟨XA,xc,rfl,_⟩:=hO.shape;clear hO;have F:=hjd hr.out.2;clear hr;obtain⟨pre,post,hp,hpl⟩:=hat.out j hlt;have S1:=hjd (S.out.a0k hwk.out);have E:=hjd (Rd.elem (i:=j) S1.out hp hpl (by omega));clear hp hpl;go_wp2_with (first
    | ((with_reducible refine a0f 18 ?_);refine a4t (o:=⟨some 18,_,_,_,_,_⟩) b0w rfl (.tmp 14) (.tmp 16) rfl rfl rfl hlt ?_)
    | ((with_reducible refine a0f 19 ?_);refine a1i (o:=⟨some 19,_,_,_,_,_⟩) (cs:=bv (sd j)) a2u.row rfl (.tmp 18) rfl rfl E.out (by simpa using ls.out) ?_)
    | ((with_reducible refine a0f 7 ?_);(refine a0h (o:=⟨some 7,_,_,_,_,_⟩) rfl rfl a8l ?_);intro g7 w7 m7;refine a0a (cs:=(bv (sd j)).toArray) (o:=⟨none,Op.store 22 (.tmp 7) (.tmp 19),_,_,_,_⟩) a2u.row rfl (.tmp 7) (.tmp 19) rfl rfl rfl m7.blk (by rfl) (by simpa using ls.out) (a3o _) ?_;intro wb7 b7 k7;have B7:=hjd b7;replace O:=hjd (O.out.a0k (m7.kept.a0r k7 m7.le));replace hwk:=hjd (hwk.out.a0g (m7.kept.a0r k7 m7.le));clear m7 b7 k7 S1 E)
    | ((with_reducible refine a0f 21 ?_);refine a0d (cs:=(bv (sd j)).toArray) (o:=⟨some 21,_,_,_,_,_⟩) a2u.row rfl (.tmp 7) rfl rfl B7.out (by simpa using ls.out) ?_)
    | (go_at_call 9;(with_reducible refine(cp.out j _).mono ?_);rintro e v22 ⟨rfl,kk⟩;replace O:=hjd (O.out.a0k kk);replace hwk:=hjd (hwk.out.a0g kk);clear kk B7)
    | ((with_reducible refine a0f 23 ?_);(refine a1a (o:=⟨some 23,_,_,_,_,_⟩) (v0:=ab (kq j)) (cells:=(bv (kq j)).toArray) rfl b0w rfl rfl (by decide) rfl (by simpa using lk.out) ?_);intro g23 w23 m23;have R23:=hjd (show Rd w23 32 (.slice (some ⟨g23,0,none⟩) 1 1) [kq j].length ([kq j].flatMap bv)from d3g m23.blk lk.out);replace O:=hjd (O.out.a0k m23.kept);replace hwk:=hjd (hwk.out.a0g m23.kept);clear m23)
    | (at_builtin;refine a1q b0w rfl (.tmp 20) (.tmp 23) rfl rfl (xs:=(kqs j).flatMap bv) (n:=j) (m:=[kq j].length) (news:=[kq j].flatMap bv) O.out rfl R23.out (b9v [kq j]) (by simp;omega) (by simp;omega) ?_;intro x24 w24 o24 k24 b24;have KF:=hjd (hwk.out.fresh k24 (fun k hk=>F.out k (Option.mem_toList.1 hk)))
       have F2:=hjd (show∀k,x24.ownBlock=some k→v13.heap.size≤k from fun k hk=>by
        rcases b24 with b | b
        ·exact F.out k (b.symm.trans hk)
        ·have:=hwk.out.size;have e:some w23.heap.size=some k:=b.symm.trans hk
         cases e
         exact this)
       have O2:=hjd (show Ow w24 22 32 x24 (j + 1) ((kqs (j + 1)).flatMap bv)from by rw [hks.out j];simpa using o24);clear o24 k24 b24))
   go_roundg (n - (j + 1));case measure=>omega
   case rel=>exact⟨j + 1,by omega,by omega,by go_num,hjd ⟨O2.out,F2.out⟩,KF⟩
  ·obtain rfl:j=n:=by omega
   have R:=hjd (Rd.a6w hr.out.1);clear hr;replace S:=hjd (S.out.a0k hwk.out);have KW:=hjd (k13.out.a0g hwk.out);clear hwk;go_wp2_with (first
    | (go_at_call 144;(with_reducible refine(cn.out _ _ R.out).mono ?_);rintro e v28 ⟨r,b,kv,rfl,h28,k28,l28⟩;have H:=hjd h28;have LB:=hjd (Nat.le_trans KW.out.size l28);replace S:=hjd (S.out.a0k k28);replace KW:=hjd (KW.out.a0g k28);clear h28 k28 l28))
   go_ret2
   exact⟨r,b,kv,_,rfl,H.out,S.out,KW.out,LB.out⟩
theorem d3y{n i:Nat}(h:i < n):(a7a n).getD i []=a6r i:=by
 unfold a7a;simp [List.getD_eq_getElem?_getD,h]
theorem of_any(k:Nat)(hk:k≤2)(w:World) :
 Calls Tryz.prog 76 #[.int .i64 (k:Int)] w fun e w'=>∃r b kv sv,e= .returned (.tuple #[.pointer (some ⟨r,0,none⟩),sv])∧Rg w' r kv (a4a (3 * k + 1)) b (.map [])∧Rd w' 32 sv (3 * k + 1) ((a7a (3 * k + 1)).flatMap bv)∧Kept [] w w'∧w.heap.size≤b:=by
 refine e4j (sd:=a6r) (kq:=b6u) (sds:=a7a) (kqs:=a4a) k (3 * k + 1) hk rfl w a9l b5x c8w rfl c9n (fun i hi=>?_) (fun u=>d5j (3 * k + 1) (by omega) u) (fun i u=>c9k _ (a9l i) u) fun u v hr=>?_
 ·have:=a8d (keys:=a7a (3 * k + 1)) (i:=i) (by rw [b8e];exact hi) (d0o _)
  rwa [d3y hi]at this
 ·have hr2:Rd u 32 v (a4a (3 * k + 1)).length ((a4a (3 * k + 1)).flatMap bv):=by rw [a5f];exact hr
  refine(d9b v (a4a (3 * k + 1)) u hr2 (d3t _) (by rw [a5f];omega) (by rw [a5f];omega) (by rw [a5f];omega)).mono ?_;rintro e w' (⟨h,_⟩ | ⟨_,r,b,kv,h1,h2,h3,h4,_⟩)
  ·exact absurd (c4v _ (by omega)) h
  ·exact⟨r,b,kv,h1,h2,h3,h4⟩
end Go.Proofs.YtdbngnlpafcogaaGreat
namespace Go.Txt
open Go.RowKit Go.Mem
section
variable {P:Program} {ops:Array Oper} {Q:Exit→Act→World→Prop}
def b6x(p:Nat→Oper→Rel→Prop):Nat→List Oper→List Rel→Prop
 | _,_,[]=>True
 | k,o :: l,v :: vs=>p k o v∧b6x p (k + 1) l vs
 | _,[],_ :: _=>False
theorem b6x.get{p:Nat→Oper→Rel→Prop}:∀(l:List Oper) (vs:List Rel) (k i:Nat) (o:Oper) (v:Rel),b6x p k l vs→l[i]?=some o→vs[i]?=some v→p (k + i) o v
 | [],_,_,_,_,_,_,h,_=>by simp at h
 | o' :: l,[],_,_,_,_,_,_,h=>by simp at h
 | o' :: l,v' :: vs,k,0,o,v,h,ho,hv=>by
   obtain rfl:o'=o:=by simpa using ho
   obtain rfl:v'=v:=by simpa using hv
   exact h.1
 | o' :: l,v' :: vs,k,i + 1,o,v,h,ho,hv=>by
   have:=b6x.get l vs (k + 1) i o v h.2 (by simpa using ho) (by simpa using hv)
   rwa [show k + 1 + i=k + (i + 1)from by omega]at this
theorem b6x.get0{p:Nat→Oper→Rel→Prop}(l:List Oper)(vs:List Rel)(i:Nat)(o:Oper)(v:Rel)(h:b6x p 0 l vs)(ho:l[i]?=some o)(hv:vs[i]?=some v):p i o v:=by
 have:=b6x.get l vs 0 i o v h ho hv
 rwa [Nat.zero_add]at this
end
end Go.Txt
namespace Go.Txt
open Go.RowKit Go.Mem
section
variable {P:Program} {ops:Array Oper} {Q:Exit→Act→World→Prop}
def e2u(l:List Oper)(n:Nat):Bool:=d1m l.toArray && ((List.range l.length).all fun i=>(List.range l.length).all fun j=>i == j || (match l[i]?,l[j]? with | some x,some y=>x.dst.isNone || x.dst !=y.dst | _,_=>true)) && l.all fun o=>match o.dst with | some d=>decide (d < n) | none=>true
def e3f(l:List Oper)(n:Nat):Bool:=(List.range l.length).all fun i=>match l[i]? with
 | none=>true
 | some o=>match o.guard with
   | none=>true
   | some (k,_)=>decide (i < n) && (o.after.toList.any fun e=>e.on == k && Region.binds .any e) && (match l[k]? with | some ok=>ok.dst.isSome | none=>false)
theorem c9y{l:List Oper}{n i:Nat}{o:Oper}(h:e3f l n=true)(ho:l[i]?=some o):(n≤i→o.guard=none)∧∀k b,o.guard=some (k,b)→a1w o k∧∃ok d,l[k]?=some ok∧ok.dst=some d:=by
 have h1:=List.all_eq_true.1 h i (by simpa using(List.getElem?_eq_some_iff.1 ho).1);rw [ho]at h1
 dsimp only at h1
 cases hg:o.guard with
 | none=>exact⟨fun _=>rfl,fun k b h=>by cases h⟩
 | some p=>
   obtain⟨k,b⟩:=p;rw [hg]at h1;simp only [Bool.and_eq_true,decide_eq_true_eq]at h1;obtain⟨⟨h2,h3⟩,h4⟩:=h1;refine⟨fun h=>by omega,fun k' b' e=>?_⟩
   cases e
   refine⟨?_,?_⟩
   ·simp only [List.any_eq_true,Bool.and_eq_true,beq_iff_eq]at h3;obtain⟨e,he,he1,he2⟩:=h3;exact⟨e,by simpa using he,he1,he2⟩
   ·cases hk:l[k]? with
    | none=>rw [hk]at h4;cases h4
    | some ok=>
      rw [hk]at h4;obtain⟨d,hd⟩:=Option.isSome_iff_exists.1 h4;exact⟨ok,d,rfl,hd⟩
def b8z(P:Program)(l:List Oper)(vs:List Rel)(S:(Nat→Bool)→World→Prop)(T:Nat→List Nat)(a0:Act)(i:Nat)(o:Oper)(r:Rel):Prop:=
 (∀k,k≠i→¬a1w o k→∀v u u',r v u→Kept (T k) u u'→r v u')∧
   ((∃k b,o.guard=some (k,b)∧vs[k]?=some (isV (.bool (!b)))∧∀w,r undef w)∨
    ((o.guard=none∨∃k b,o.guard=some (k,b)∧vs[k]?=some (isV (.bool b)))∧∀(L:Nat→Bool) a w (C:Act→World→Prop) (R:Exit→Act→World→Prop),L i=false→S L w→
     (∀(j:Nat) (r':Rel) d oj,vs[j]?=some r'→l[j]?=some oj→oj.dst=some d→a1w o j→r' (a.tmps.getD d undef) w)→
     (∀t,(∀x∈l,x.dst≠some t)→a.tmps.getD t undef=a0.tmps.getD t undef)→
     (∀v w',Kept (T i) w w'→r v w'→C (a.put o.dst v) w')→o.wp P a w C R))
theorem b4x{id:Nat}{l:List Oper}{a0:Act}{w0:World}(hm:P.follows .mixedOrders=true)(vs:List Rel)(S:(Nat→Bool)→World→Prop)(T:Nat→List Nat)(hch:e2u l a0.tmps.size=true)(hgu:e3f l vs.length=true)(hn:vs.length < l.length)(htl:e4o l vs.length=true)
 (hS0:S (fun _=>false) w0.drew) (hSc:∀L L' u,(∀j,j < l.length→L j=L' j)→S L u→S L' u) (hS:∀L i u u',L i=false→S L u→Kept (T i) u u'→S (fun j=>if j=i then true else L j) u') (hA:b6x (b8z P l vs S T a0) 0 l vs)
 (hF:∀(v:Nat→Value) w,S (fun j=>decide (j < vs.length)) w→(∀(j:Nat) (r:Rel),vs[j]?=some r→r (v j) w)→a2t P Q (l.drop vs.length) (a1f l.toArray v (fun j=>decide (j < vs.length)) (List.range l.length) a0) w):(Code.region id l.toArray true).wp P Q a0 w0:=by
 simp only [e2u,Bool.and_eq_true]at hch;obtain⟨⟨hdep,hdst⟩,hsz⟩:=hch;have hd:∀(i:Nat) (o:Oper),l[i]?=some o→∀(j:Nat),j≠i→∀(oj:Oper),l[j]?=some oj→∀t,oj.dst=some t→o.dst≠some t:=by
  intro i o ho j hj oj hoj t ht e;have hil:i < l.length:=(List.getElem?_eq_some_iff.1 ho).1;have hjl:j < l.length:=(List.getElem?_eq_some_iff.1 hoj).1;have:=List.all_eq_true.1 (List.all_eq_true.1 hdst j (by simpa using hjl)) i (by simpa using hil);simp [ho,hoj,ht,e,hj]at this
 have hlt:∀(i:Nat) (o:Oper) d,l[i]?=some o→o.dst=some d→d < a0.tmps.size:=by
  intro i o d ho hdd;have:=List.all_eq_true.1 hsz o (List.mem_of_getElem? ho);simpa [hdd]using this
 have hget:∀(i:Nat) (o:Oper) (d:Tmp) (v:Nat→Value) (L:Nat→Bool),l[i]?=some o→o.dst=some d→L i=true→(a1f l.toArray v L (List.range l.length) a0).tmps.getD d undef=v i:=by
  intro i o d v L ho hdd hL;exact a9a (by simpa using ho) hdd hL (fun j hj oj hoj t ht=>hd i o ho j hj oj (by simpa using hoj) t ht) _ _ List.nodup_range (by simpa using(List.getElem?_eq_some_iff.1 ho).1) (hlt i o d ho hdd)
 have hoth:∀(t:Tmp) (v:Nat→Value) (L:Nat→Bool),(∀x∈l,x.dst≠some t)→(a1f l.toArray v L (List.range l.length) a0).tmps.getD t undef=a0.tmps.getD t undef:=by
  intro t v L ht;exact a5q _ _ fun j _ o ho _=>ht o (List.mem_of_getElem? (by simpa using ho))
 have hset:∀(i:Nat) (o:Oper) (v:Nat→Value) (L:Nat→Bool),l[i]?=some o→L i=false→(a1f l.toArray v L (List.range l.length) a0).put o.dst (v i)=a1f l.toArray v (fun j=>if j=i then true else L j) (List.range l.length) a0:=by
  intro i o v L ho hL;exact(a9o hL (by simpa using ho) (fun j hj oj hoj t ht=>hd i o ho j hj oj (by simpa using hoj) t ht) _ _ List.nodup_range (by simpa using(List.getElem?_eq_some_iff.1 ho).1)).symm
 let I:(Nat→Bool)→Act→World→Prop:=fun L a w=>b3c l L∧((S L w∧(∃v:Nat→Value,a=a1f l.toArray v L (List.range l.length) a0∧∀(j:Nat) (r:Rel),vs[j]?=some r→L j=true→r (v j) w)∧∀j,vs.length≤j→j < l.length→L j=false)∨
  ∃m,vs.length < m∧m≤l.length∧(∀j,j < m→L j=true)∧(∀j,m≤j→j < l.length→L j=false)∧a2t P Q (l.drop m) a w)
 have hvl:∀(j:Nat) (r:Rel),vs[j]?=some r→j < vs.length:=fun j r h=>(List.getElem?_eq_some_iff.1 h).1
 refine wp_region_any hm ?_;refine a9d I ?_ hdep ?_ ?_ _ _ _ _ (by simp) (by simp) ?_
 ·rintro L L' a w hL ⟨hc,h⟩;have hL2:∀j,j < l.length→L j=L' j:=fun j hj=>hL j (by simpa using hj)
  refine⟨fun j o hj hl k hb hk=>?_,?_⟩
  ·have hjl:j < l.length:=(List.getElem?_eq_some_iff.1 hj).1;exact(hL2 k hk).symm.trans (hc j o hj ((hL2 j hjl).trans hl) k hb hk)
  rcases h with⟨h1,⟨v,h2,hr⟩,h3⟩ | ⟨m,m1,m2,m3,m4,m5⟩
  ·exact .inl ⟨hSc _ _ _ hL2 h1,⟨v,h2.trans (a1t _ _ fun j hj=>⟨hL2 j (by simpa using hj),fun _=>rfl⟩),fun j r hj hl=>hr j r hj ((hL2 j (by have:=hvl j r hj;omega)).trans hl)⟩,fun j hj hl=>(hL2 j hl).symm.trans (h3 j hj hl)⟩
  ·exact .inr ⟨m,m1,m2,fun j hj=>(hL2 j (by omega)).symm.trans (m3 j hj),fun j hj hl=>(hL2 j hl).symm.trans (m4 j hj hl),m5⟩
 ·rintro L a w i o ⟨hcl,hI⟩ ho hLi hdeps;have ho':l[i]?=some o:=by simpa using ho
  have hil:i < l.length:=(List.getElem?_eq_some_iff.1 ho').1;have hbound:∀j,a1w o j→L j=true:=by
   rintro j ⟨e,he,rfl,hb⟩;exact hdeps e he hb
  have hstep:=b6f hcl ho' hbound;have hcase:(Region.wanted o (yielded l.toArray a.tmps)=true→o.wp P a w (fun a' w'=>I (fun j=>if j=i then true else L j) a' w') Q)→(Region.wanted o (yielded l.toArray a.tmps)=false→I (fun j=>if j=i then true else L j) (a.put o.dst undef) w)→wpOp P l.toArray Q i (fun a' w'=>I (fun j=>if j=i then true else L j) a' w') a w:=by
   intro h1 h2;unfold wpOp;simp only [ho]
   cases hwt:Region.wanted o (yielded l.toArray a.tmps)with
   | true=>rw [if_pos rfl];exact .inl (h1 hwt)
   | false=>rw [if_neg (by simp)];exact h2 hwt
  obtain⟨hgt,hgb⟩:=c9y hgu ho';have hfree:o.guard=none→∀y,Region.wanted o y=true:=fun h y=>by simp [Region.wanted,h]
  have hnext:∀m,vs.length≤m→i=m→(∀j,j < m→L j=true)→(∀j,m≤j→j < l.length→L j=false)→∀a w,a2t P Q (l.drop m) a w→o.wp P a w (fun a' w'=>I (fun j=>if j=i then true else L j) a' w') Q:=by
   rintro m hm rfl m3 m4 a w hq;rw [List.drop_eq_getElem_cons hil]at hq;have e:l[i]=o:=by
    rw [List.getElem?_eq_getElem hil]at ho';simpa using ho'
   rw [e]at hq;refine Oper.wp_mono (fun a' w' hq=>⟨hstep,.inr ⟨i + 1,by omega,by omega,fun j hj=>?_,fun j hj hl=>?_,hq⟩⟩) hq
   ·dsimp only
    by_cases h:j=i
    ·rw [if_pos h]
    ·rw [if_neg h];exact m3 j (by omega)
   ·dsimp only
    rw [if_neg (by omega)];exact m4 j (by omega) hl
  rcases hI with⟨h1,⟨v,rfl,hr⟩,h3⟩ | ⟨m,m1,m2,m3,m4,m5⟩
  case inr=>
   have hmi:m≤i:=by
    rcases Nat.lt_or_ge i m with h | h
    ·rw [m3 i h]at hLi;cases hLi
    ·exact h
   have him:i=m:=by
    rcases Nat.lt_or_ge m i with h | h
    ·have:=b1l htl (by omega) hil hcl ho' (fun j hb _=>hbound j hb) m h;rw [m4 m (Nat.le_refl _) (by omega)]at this;cases this
    ·omega
   exact hcase (fun _=>hnext m (by omega) him m3 m4 _ _ m5) (fun hw=>absurd (hfree (hgt (by omega)) _) (by rw [hw];simp))
  by_cases hin:vs.length≤i
  ·have hall:=b1l htl hin hil hcl ho' (fun j hb _=>hbound j hb);have hi:i=vs.length:=by
    rcases Nat.lt_or_ge vs.length i with h | h
    ·have:=hall vs.length h;rw [h3 _ (Nat.le_refl _) hn]at this;cases this
    ·omega
   have e1:a1f l.toArray v L (List.range l.length) a0=a1f l.toArray v (fun j=>decide (j < vs.length)) (List.range l.length) a0:=by
    refine a1t _ _ fun j hj=>⟨?_,fun _=>rfl⟩
    have hj':j < l.length:=by simpa using hj
    by_cases h:j < vs.length
    ·rw [hall j (by omega)];simp [h]
    ·rw [h3 j (by omega) hj'];simp [h]
   refine hcase (fun _=>hnext vs.length (Nat.le_refl _) hi (fun j hj=>hall j (by omega)) h3 _ _ ?_) (fun hw=>absurd (hfree (hgt hin) _) (by rw [hw];simp));rw [e1];refine hF v w (hSc _ _ _ (fun j hj=>?_) h1) fun j r hj=>hr j r hj (hall j (by have:=hvl j r hj;omega))
   by_cases h:j < vs.length
   ·rw [hall j (by omega)];simp [h]
   ·rw [h3 j (by omega) hj];simp [h]
  ·have hi:i < vs.length:=by omega
   have hv:vs[i]?=some vs[i]:=by simp [hi]
   obtain⟨_,hp⟩:=b6x.get0 l vs i o vs[i] hA ho' hv;have hy:∀k b c,o.guard=some (k,b)→vs[k]?=some (isV (.bool c))→Region.wanted o (yielded l.toArray (a1f l.toArray v L (List.range l.length) a0).tmps)=(c == b):=by
    intro k b c hg hvk;obtain⟨hb,ok,d,hok,hd1⟩:=hgb k b hg;have e1:v k= .bool c:=hr k _ hvk (hbound k hb);have e2:=hget k ok d v L hok hd1 (hbound k hb);rw [e1]at e2;have e3:yielded l.toArray (a1f l.toArray v L (List.range l.length) a0).tmps k=some c:=by
     unfold yielded;have h0:l.toArray[k]?=some ok:=by simpa using hok
     rw [h0];simp only [Option.bind_some,hd1];rw [Array.getD_eq_getD_getElem?]at e2
     cases hq:(a1f l.toArray v L (List.range l.length) a0).tmps[d]? with
     | none=>rw [hq]at e2;cases e2
     | some x=>rw [hq]at e2;simp only [Option.getD_some]at e2;rw [e2]
    simp [Region.wanted,hg,e3]
   have hgo:∀u w',Kept (T i) w w'→vs[i] u w'→I (fun j=>if j=i then true else L j) ((a1f l.toArray v L (List.range l.length) a0).put o.dst u) w':=?hgo;case hgo=>
    refine fun u w' hk hru=>⟨hstep,.inl ⟨hS L i _ _ hLi h1 hk,⟨fun j=>if j=i then u else v j,?_,fun j r hj hl=>?_⟩,fun j hj hl=>?_⟩⟩
    ·have e1:a1f l.toArray v L (List.range l.length) a0=a1f l.toArray (fun j=>if j=i then u else v j) L (List.range l.length) a0:=by
      refine a1t _ _ fun j _=>⟨rfl,fun hl=>?_⟩
      have hji:j≠i:=fun e=>by rw [e,hLi]at hl;cases hl
      simp [hji]
     have:=hset i o (fun j=>if j=i then u else v j) L ho' hLi;simp only [if_true]at this;rw [e1];exact this
    ·dsimp only at hl ⊢
     by_cases hji:j=i
     ·subst hji;rw [hv]at hj;cases hj
      rw [if_pos rfl];exact hru
     ·rw [if_neg hji]at hl ⊢;obtain⟨oj,hoj⟩:∃oj,l[j]?=some oj:=⟨_,List.getElem?_eq_getElem (by have:=hvl j r hj;omega)⟩;obtain⟨hst,_⟩:=b6x.get0 l vs j oj r hA hoj hj;exact hst i (fun e=>hji e.symm) (fun hb=>by have:=hcl j oj hoj hl i hb hil;rw [hLi]at this;cases this) _ _ _ (hr j r hj hl) hk
    ·dsimp only
     rw [if_neg (by omega)];exact h3 j hj hl
   rcases hp with⟨k,b,hg,hvk,hru⟩ | ⟨hg,hp⟩
   ·refine hcase (fun hw=>?_) (fun _=>hgo undef w (Kept.refl _ _) (hru w));rw [hy k b _ hg hvk]at hw
    cases b <;> cases hw
   ·refine hcase (fun _=>hp L _ w _ _ hLi h1 (fun j r d oj hK hoj hdj hb=>?_) (fun t ht=>hoth t _ L ht) hgo) (fun hw=>?_)
    ·rw [hget j oj d v L hoj hdj (hbound j hb)];exact hr j r hK (hbound j hb)
    ·rcases hg with hg | ⟨k,b,hg,hvk⟩
     ·exact absurd (hfree hg _) (by rw [hw];simp)
     ·rw [hy k b b hg hvk]at hw;simp at hw
 ·rintro L a w ⟨_,⟨_,_,h3⟩ | ⟨m,m1,m2,m3,m4,m5⟩⟩ hall
  ·have:=h3 _ (Nat.le_refl _) hn;rw [hall vs.length (by simpa using hn)]at this;cases this
  ·have:m=l.length:=by
    rcases Nat.lt_or_ge m l.length with h | h
    ·have h2:=m4 m (Nat.le_refl _) h;rw [hall m (by simpa using h)]at h2;cases h2
    ·omega
   subst this
   rwa [List.drop_length]at m5
 ·have hf:∀(j:Nat),j < l.length→(Array.replicate l.toArray.size false).getD j true=false:=by
   intro j hj;simp [hj]
  refine⟨fun j o hj hl=>absurd ((hf j (List.getElem?_eq_some_iff.1 hj).1).symm.trans hl) (by simp),.inl ⟨hSc _ _ _ (fun j hj=>(hf j hj).symm) hS0,⟨fun _=>undef,?_,fun j r hj hl=>absurd ((hf j (by have:=hvl j r hj;omega)).symm.trans hl) (by simp)⟩,fun j _ hl=>hf j hl⟩⟩;rw [a1t (L':=fun _=>false) (v':=fun _=>undef) _ _ fun j hj=>⟨hf j (by simpa using hj),fun _=>rfl⟩,a7p]
end
end Go.Txt
namespace Go.Proofs.YtdbngnlpafcogaaGreat
open Go.RowKit Go.Mem Go.Txt
section
variable {l:List Oper} {vs:List Rel} {a0:Act} {o:Oper} {S:(Nat→Bool)→World→Prop} {T:Nat→List Nat}
theorem a1n{i:Nat}{v:Value}(hT:T i= [])(hg:o.guard=none∨∃k b,o.guard=some (k,b)∧vs[k]?=some (isV (.bool b)))
 (hc:∀(L:Nat→Bool) (a:Act) w,L i=false→S L w→(∀(j:Nat) (r':Rel) d oj,vs[j]?=some r'→l[j]?=some oj→oj.dst=some d→a1w o j→r' (a.tmps.getD d undef) w)→(∀t,(∀x∈l,x.dst≠some t)→a.tmps.getD t undef=a0.tmps.getD t undef)→(execOp a.eval o).run Tryz.prog w= .ok (.value v) w) :
 b8z Tryz.prog l vs S T a0 i o (isV v):=
 ⟨fun _ _ _ _ _ _ h _=>h,.inr ⟨hg,fun L a w _ _ hL hS hr hoth h=>a4o (hc L a w hL hS hr hoth) (h _ _ (Kept.refl _ _) rfl)⟩⟩
theorem a7h{i:Nat}{x:Tmp}{p v:Value}(hT:T i= [])(hg:o.guard=none∨∃k b,o.guard=some (k,b)∧vs[k]?=some (isV (.bool b)))(hx:a0.tmps.getD x undef=p)(hf:∀y∈l,y.dst≠some x)(he:∀(a:Act) W,a.tmps.getD x undef=p→(execOp a.eval o).run Tryz.prog W= .ok (.value v) W) :
 b8z Tryz.prog l vs S T a0 i o (isV v):=
 a1n hT hg fun _ a w _ _ _ hoth=>he a w ((hoth x hf).trans hx)
end
section
variable {a:Act} {o:Oper} {x y:Nat}
theorem a7q{p:Addr}(ho:o.op= .nilCheck (.tmp x))(W:World)(hx:a.tmps.getD x undef= .pointer (some p)):(execOp a.eval o).run Tryz.prog W= .ok (.value (.pointer (some p))) W:=by
 unfold execOp;simp only [ho,Sem.run_bind,Act.eval,hx];rfl
theorem a7o{g q:Nat}(ho:o.op= .fieldAddr 132 (.tmp x) 0)(W:World)(hx:a.tmps.getD x undef= .pointer (some ⟨g,q,none⟩)):(execOp a.eval o).run Tryz.prog W= .ok (.value (.pointer (some ⟨g,q,none⟩))) W:=by
 unfold execOp;simp only [ho,Sem.run_bind,Act.eval,hx];have h:(Instr.fieldAt 132 (.pointer (some ⟨g,q,none⟩)) 0).run Tryz.prog W= .ok (.pointer (some ⟨g,q,none⟩)) W:=by kernel_rfl
 rw [h];rfl
theorem a7j{b:Bool}{u v r:Value}{z:Operand}{w:Operand}(ho:o.op= .pick (.tmp x) z w)(W:World)(hx:a.tmps.getD x undef= .bool b)(hz:a.eval z=u)(hw:a.eval w=v)(hr:(if b then u else v)=r):(execOp a.eval o).run Tryz.prog W= .ok (.value r) W:=by
 have hx2:a.eval (.tmp x)= .bool b:=hx
 cases b with
 | true=>
   obtain rfl:u=r:=hr;simp [execOp,ho,hx2,hz,hw,asBool]
 | false=>
   obtain rfl:v=r:=hr;simp [execOp,ho,hx2,hz,hw,asBool]
theorem b9t{n:Int}{b:Bool}{t':TypeId}(ho:o.op= .binOp .geq 3 (.tmp x) (.const (.int .i64 0)) t')(W:World)(hx:a.tmps.getD x undef= .int .i64 n)(hb:decide (0≤n)=b):(execOp a.eval o).run Tryz.prog W= .ok (.value (.bool b)) W:=by
 have hx3:=hx;rw [Array.getD_eq_getD_getElem?]at hx3;have h:(binOp .geq 3 (.int .i64 n) (.int .i64 0)).run Tryz.prog W= .ok (.bool (decide (0≤n))) W:=by kernel_rfl
 rw [hb]at h;simp [execOp,ho,hx3,Act.eval,h,eqGuard]
theorem c7k{n:Int}{b:Bool}{t':TypeId}(ho:o.op= .binOp .lss 3 (.tmp x) (.const (.int .i64 7)) t')(W:World)(hx:a.tmps.getD x undef= .int .i64 n)(hb:decide (n < 7)=b):(execOp a.eval o).run Tryz.prog W= .ok (.value (.bool b)) W:=by
 have hx3:=hx;rw [Array.getD_eq_getD_getElem?]at hx3;have h:(binOp .lss 3 (.int .i64 n) (.int .i64 7)).run Tryz.prog W= .ok (.bool (decide (n < 7))) W:=by kernel_rfl
 rw [hb]at h;simp [execOp,ho,hx3,Act.eval,h,eqGuard]
theorem arr7b:EntT Tryz.prog 196 195 7 1:=⟨Tryz.underlying196,by kernel_rfl,by kernel_rfl,by decide⟩
theorem d3o{g m:Nat}(ho:o.op= .indexAddr 196 (.tmp y) (.tmp x))(W:World)(hy:a.tmps.getD y undef= .pointer (some ⟨g,0,none⟩))(hx:a.tmps.getD x undef= .int .i64 (m:Int))(hm:m < 7):(execOp a.eval o).run Tryz.prog W= .ok (.value (.pointer (some ⟨g,1 * m,none⟩))) W:=by
 have h:=arr7b.run (g:=g) hm .i64 W;unfold execOp;simp only [ho,Sem.run_bind,Act.eval,hx,hy];rw [h];rfl
theorem d8s{p:Option Addr}{t':TypeId}(ho:o.op= .binOp .eql 195 (.tmp x) (.const (.pointer none)) t')(W:World)(hx:a.tmps.getD x undef= .pointer p):(execOp a.eval o).run Tryz.prog W= .ok (.value (.bool p.isNone)) W:=by
 have hx3:=hx;rw [Array.getD_eq_getD_getElem?]at hx3;have h:(binOp .eql 195 (.pointer p) (.pointer none)).run Tryz.prog W= .ok (.bool p.isNone) W:=by
  cases p <;> kernel_rfl
 simp [execOp,ho,hx3,Act.eval,h,eqGuard]
end
end Go.Proofs.YtdbngnlpafcogaaGreat
namespace Go.Txt
open Go.RowKit Go.Mem
section
variable {P:Program} {a:Act} {o:Oper} {W:World}
theorem x_mv{x:Operand}{v:Value}(ho:o.op= .move x)(hx:a.eval x=v):(execOp a.eval o).run P W= .ok (.value v) W:=by
 unfold execOp;simp only [ho,hx];rfl
theorem x_nil{x:Operand}{p:Addr}(ho:o.op= .nilCheck x)(hx:a.eval x= .pointer (some p)):(execOp a.eval o).run P W= .ok (.value (.pointer (some p))) W:=by
 unfold execOp;simp only [ho,hx];rfl
theorem b7b{x:Operand}{s:TypeId}{f:Nat}{v r:Value}(ho:o.op= .fieldAddr s x f)(hx:a.eval x=v)(h:(Instr.fieldAt s v f).run P W= .ok r W):(execOp a.eval o).run P W= .ok (.value r) W:=by
 unfold execOp;simp only [ho,hx,Sem.run_bind,h];rfl
theorem b6e{x y:Operand}{t:TypeId}{v i r:Value}(ho:o.op= .indexAddr t x y)(hx:a.eval x=v)(hy:a.eval y=i)(h:(Instr.indexAt t v i).run P W= .ok r W):(execOp a.eval o).run P W= .ok (.value r) W:=by
 unfold execOp;simp only [ho,hx,hy,Sem.run_bind,h];rfl
theorem d6u{x y:Operand}{t:TypeId}{v i r:Value}(ho:o.op= .index t x y)(hx:a.eval x=v)(hy:a.eval y=i)(h:(Instr.index t v i).run P W= .ok r W):(execOp a.eval o).run P W= .ok (.value r) W:=by
 unfold execOp;simp only [ho,hx,hy,Sem.run_bind,h];rfl
theorem a1d{x:Operand}{t:TypeId}(ho:o.op= .load t x)(hs:∀w,(isAgg t).run P w= .ok false w){p:Addr}(hx:a.eval x= .pointer (some p)){v:Value}(hc:W.cell? p=some v):(execOp a.eval o).run P W= .ok (.value v) W:=by
 simp [execOp,ho,hx,Instr.loadAt,Instr.sureAddr,loadVar,hs,hc]
end
section
variable {P:Program} {l:List Oper} {vs:List Rel} {a0:Act} {o:Oper} {S:(Nat→Bool)→World→Prop} {T:Nat→List Nat}
theorem a2l{a:Act}{w:World}{C:Act→World→Prop}{R:Exit→Act→World→Prop}{t bt:TypeId}{b off:Nat}{v:Value}{cs:Array Value}(x y:Operand)(ho:o.op= .store t x y)(hx:a.eval x= .pointer (some ⟨b,off,none⟩))(hy:a.eval y=v)(h1:v.oneCell'=true)
 (hs:(P.info? t).map (·.size)=some 1) (hb:Blk w b bt cs) (hl:off < cs.size) (h:∀w',Blk w' b bt (cs.setIfInBounds off v)→Kept [b] w w'→C (a.put o.dst undef) w'):o.wp P a w C R:=by
 have hc:v.cells= #[v]:=by cases v <;> first | rfl | cases h1
 have ht:=hb.there (off:=off) (m:=1) (by omega);have hrun:(storeVar t ⟨b,off,none⟩ v).run P w= .ok () (w.setCells b off [v]):=by
  have:=run_storeCells_cells (P:=P) b off [v] 0 w (fun j hj=>by simpa using(ht j (by simpa using hj)).1) (fun j hj=>by simpa using(ht j (by simpa using hj)).2) (fun u hu=>by simp at hu;subst hu;exact h1)
  cases hq:P.info? t with
  | none=>simp [hq]at hs
  | some i=>
    have hs2:i.size=1:=by simpa [hq]using hs
    simp only [Nat.add_zero]at this;simp [storeVar,sizeOf,typeInfo,hq,hc,hs2,this]
 have hB:Blk (w.setCells b off [v]) b bt (cs.setIfInBounds off v):=by
  obtain⟨cs',h2,h3,h4⟩:=Blk.setCells [v] off _ _ hb;have e:cs'=cs.setIfInBounds off v:=by
   refine Array.ext_getElem? fun j=>?_
   rw [h4 j,Array.getElem?_setIfInBounds];by_cases hj:off=j
   ·subst hj;simp [hl]
   ·rw [if_neg hj];split
    ·simp at *;omega
    ·rfl
  rw [←e];exact h2
 unfold Oper.wp execOp;simp only [ho,hx,hy,Instr.storeAt,Instr.sureAddr,Sem.run_bind,Sem.run_pure,Result.andThen_ok,hrun];exact h _ hB (Kept.setCells [v] off w)
abbrev GYes(vs:List Rel)(o:Oper):Prop:=o.guard=none∨∃k b,o.guard=some (k,b)∧vs[k]?=some (isV (.bool b))
abbrev e4y(l:List Oper)(vs:List Rel)(o:Oper)(a:Act)(w:World):Prop:=∀(j:Nat) (r':Rel) d oj,vs[j]?=some r'→l[j]?=some oj→oj.dst=some d→a1w o j→r' (a.tmps.getD d undef) w
abbrev d3v(l:List Oper)(a0 a:Act):Prop:=∀t,(∀x∈l,x.dst≠some t)→a.tmps.getD t undef=a0.tmps.getD t undef
theorem a6e{i:Nat}{v:Value}(hg:GYes vs o)
 (hc:∀(L:Nat→Bool) (a:Act) w,L i=false→S L w→e4y l vs o a w→d3v l a0 a→(execOp a.eval o).run P w= .ok (.value v) w) :
 b8z P l vs S T a0 i o (isV v):=
 ⟨fun _ _ _ _ _ _ h _=>h,.inr ⟨hg,fun L a w _ _ hL hS hr hoth h=>a4o (hc L a w hL hS hr hoth) (h _ _ (Kept.refl _ _) rfl)⟩⟩
def a8x(k0:Nat)(e:TypeId)(n:Nat)(cs:Array Value):Rel:=fun v w=>∃g,v= .slice (some ⟨g,0,none⟩) n n∧Blk w g e cs∧k0≤g
theorem a8x.kept{k0:Nat}{e:TypeId}{n:Nat}{cs:Array Value}{U:List Nat}{v:Value}{w w':World}(h:a8x k0 e n cs v w)(hk:Kept U w w')(hU:∀k∈U,k < k0):a8x k0 e n cs v w':=by
 obtain⟨g,h1,h2,h3⟩:=h;exact⟨g,h1,h2.kept hk (fun hm=>by have:=hU _ hm;omega),h3⟩
theorem b8y{a:Act}{w:World}{C:Act→World→Prop}{R:Exit→Act→World→Prop}{t e:TypeId}{s bytes:Nat}{z:Value}(TT:SliceT P t e s bytes z){x0:Operand}(ho:o.op= .buildSlice t 1 #[(0,x0)]){v0:Value}(h0:a.eval x0=v0)
 (hsmall:s≤2 ^ 24) {cells:Array Value} (hc:v0.cells=cells) (hcs:cells.size=s) (h:C (a.put o.dst (.slice (some ⟨w.heap.size,0,none⟩) 1 1)) (w.alloc (.cells cells e))):o.wp P a w C R:=by
 obtain⟨i,hi,hz,hs,hb⟩:=info_parts TT.2;have e2:(#[(0,x0)].map fun(p:Nat × Operand)=>(p.1,a.eval p.2)).toList= [(0,v0)]:=by simp [h0]
 have hf:Instr.fill (fun i=>some (i * s,s)) ((Array.range (1 * s)).map (z.cells[· % z.cells.size]!)) [(0,v0)]=some cells:=by
  have hzs:((Array.range (1 * s)).map (z.cells[· % z.cells.size]!)).size=s:=by simp
  subst hc;unfold Instr.fill;simp only [hcs,Nat.zero_mul,ne_eq,hzs,Nat.zero_add,gt_iff_lt,Nat.lt_irrefl,decide_false,Bool.or_false,decide_not,decide_true,Bool.not_true,Bool.false_eq_true,if_false,Instr.fill];congr 1;rw [←Array.foldl_toList,Array.toList_zipIdx];apply Array.ext_getElem?;intro j;refine(b4t v0.cells.toList 0 _ j).trans ?_;rw [hzs];by_cases hj:j < s
  ·rw [if_pos (by rw [Array.length_toList,hcs];omega)];simp
  ·rw [if_neg (by omega),Array.getElem?_eq_none (by rw [hzs];omega),Array.getElem?_eq_none (by omega)]
 exact wp_buildSlice t e 1 _ ho cells i z TT.1 hi hz (by rw [hs];omega) (by rw [hs];have:=TT.pos;omega) (by rw [hs];exact(congrArg (Instr.fill _ _) e2).trans hf) h
theorem c1h{i k0:Nat}{t e:TypeId}{s bytes:Nat}{z v0:Value}{x0:Operand}(TT:SliceT P t e s bytes z)(ho:o.op= .buildSlice t 1 #[(0,x0)])(hsmall:s≤2 ^ 24){cells:Array Value}(hc:v0.cells=cells)(hcs:cells.size=s)(hg:GYes vs o)(hT:∀k x,x∈T k→x < k0)(hk0:∀L w,S L w→k0≤w.heap.size)
 (h0:∀(L:Nat→Bool) (a:Act) w,L i=false→S L w→e4y l vs o a w→d3v l a0 a→a.eval x0=v0):b8z P l vs S T a0 i o (a8x k0 e 1 cells):=
 ⟨fun k _ _ _ _ _ h hk=>a8x.kept h hk (hT k),.inr ⟨hg,fun L a w _ _ hL hS hr hoth h=>b8y TT ho (h0 L a w hL hS hr hoth) hsmall hc hcs (h _ _ ((Kept.refl _ w).alloc _) ⟨_,rfl,Blk.new _ _ _,hk0 L w hS⟩)⟩⟩
def isApp(k0:Nat)(e:TypeId)(s n:Nat)(xs:List Value)(ob:Option Nat)(far:List Nat):Rel:=fun v w=>Ow w e s v n xs∧(v.ownBlock=ob∨∀k,v.ownBlock=some k→k0≤k)∧∀k∈far,v.ownBlock≠some k
theorem isApp.kept{k0:Nat}{e:TypeId}{s n:Nat}{xs:List Value}{ob:Option Nat}{far U:List Nat}{v:Value}{w w':World}(h:isApp k0 e s n xs ob far v w)(hk:Kept U w w')(hU:∀k∈U,k∈far):isApp k0 e s n xs ob far v w':=
 ⟨h.1.kept hk (fun k hv hm=>h.2.2 k (hU k hm) hv),h.2.1,h.2.2⟩
theorem e2s{a:Act}{w:World}{C:Act→World→Prop}{R:Exit→Act→World→Prop}{t e:TypeId}{size bytes:Nat}{z:Value}(TT:SliceT P t e size bytes z){s x:Operand}
 (ho:o.op= .call {callee:=.builtin .append,args:=#[s,x],argTypes:=#[t,t]}) {v:Value} (hs:a.eval s=v) {n:Nat} {xs:List Value} (hown:Ow w e size v n xs)
 {xv:Value} (hx:a.eval x=xv) {m:Nat} {news:List Value} (hr:Rd w size xv m news) (h1:∀u∈news,u.oneCell'=true) (hbytes:(n + m) * bytes≤140737488355328) (h63:n + m≤9223372036854775807)
 (h:∀v' w',Ow w' e size v' (n + m) (xs ++ news)→Kept v.ownBlock.toList w w'→(v'.ownBlock=v.ownBlock∨v'.ownBlock=some w.heap.size)→C (a.put o.dst v') w'):o.wp P a w C R:=by
 obtain⟨v',w',hrun,h2,h3,h4⟩:=b9l TT o.type hown hr h1 hbytes h63;unfold Oper.wp execOp;simp only [ho,resolve,invoke,builtin,Sem.run_bind,Sem.run_pure,Result.andThen_ok,List.map_toArray,List.map_cons,List.map_nil,hs,hx,hrun];exact h v' w' h2 h3 h4
theorem c5x{i k0:Nat}{t e:TypeId}{size bytes n m:Nat}{z v:Value}{xs news:List Value}{far:List Nat}(TT:SliceT P t e size bytes z){s x:Operand}(ho:o.op= .call {callee:=.builtin .append,args:=#[s,x],argTypes:=#[t,t]})
 (h1:∀u∈news,u.oneCell'=true) (hbytes:(n + m) * bytes≤140737488355328) (h63:n + m≤9223372036854775807) (hg:GYes vs o) (hT:T i=v.ownBlock.toList) (hfar:∀k,k≠i→¬a1w o k→∀x∈T k,x∈far)
 (hk0:∀L w,S L w→k0≤w.heap.size) (hf0:∀k∈far,k < k0∧v.ownBlock≠some k)
 (h0:∀(L:Nat→Bool) (a:Act) w,L i=false→S L w→e4y l vs o a w→d3v l a0 a→a.eval s=v∧Ow w e size v n xs∧∃xv,a.eval x=xv∧Rd w size xv m news):b8z P l vs S T a0 i o (isApp k0 e size (n + m) (xs ++ news) v.ownBlock far):=
 ⟨fun k hk hb _ _ _ h hkk=>isApp.kept h hkk (hfar k hk hb),.inr ⟨hg,fun L a w _ _ hL hS hr hoth h=>by
  obtain⟨e1,e2,xv,e3,e4⟩:=h0 L a w hL hS hr hoth;refine e2s TT ho e1 e2 e3 e4 h1 hbytes h63 fun v' w' o1 o2 o3=>h _ _ (by rw [hT];exact o2) ⟨o1,?_,fun k hk hv=>?_⟩
  ·rcases o3 with o3 | o3
   ·exact .inl o3
   ·right
    intro k hk;rw [o3]at hk
    cases hk
    exact hk0 L w hS
  ·rcases o3 with o3 | o3
   ·exact(hf0 k hk).2 (o3▸hv)
   ·have:=(hf0 k hk).1;have:=hk0 L w hS;rw [o3]at hv
    cases hv
    omega⟩⟩
theorem a4w{w:World}{e:TypeId}{s n:Nat}{v:Value}{xs:List Value}(h:Ow w e s v n xs):v.oneCell'=true:=by
 obtain⟨A,c,rfl,_⟩:=h.shape;rfl
theorem a4x{u:World}{g s:Nat}{t:TypeId}{cells:List Value}(h:Blk u g t cells.toArray)(hs:cells.length=s):Rd u s (.slice (some ⟨g,0,none⟩) 1 1) 1 cells:=
 ⟨_,_,rfl,by omega,Nat.le_refl _,fun _=>⟨g,0,rfl,fun j v hj=>by rw [h.cell,Nat.zero_add];simpa using hj⟩⟩
def Two(i1 i2:Nat)(W:World)(e1:TypeId)(s1:Nat)(v1:Value)(n1:Nat)(xs1:List Value)(e2:TypeId)(s2:Nat)(v2:Value)(n2:Nat)(xs2:List Value)(L:Nat→Bool)(u:World):Prop:=
 Kept (v1.ownBlock.toList ++ v2.ownBlock.toList) W u∧(L i1=false→Ow u e1 s1 v1 n1 xs1)∧(L i2=false→Ow u e2 s2 v2 n2 xs2)
def b4z(i1 i2:Nat)(v1 v2:Value):Nat→List Nat:=fun i=>if i=i1 then v1.ownBlock.toList else if i=i2 then v2.ownBlock.toList else []
section
variable {i1 i2 s1 s2 n1 n2:Nat} {W:World} {e1 e2:TypeId} {v1 v2:Value} {xs1 xs2:List Value}
theorem Two.start(h1:Ow W e1 s1 v1 n1 xs1)(h2:Ow W e2 s2 v2 n2 xs2)(L:Nat→Bool):Two i1 i2 W e1 s1 v1 n1 xs1 e2 s2 v2 n2 xs2 L W.drew:=
 ⟨(Kept.refl _ W).drew,fun _=>h1.drew,fun _=>h2.drew⟩
theorem Two.same{l:List Oper}(hl1:i1 < l.length)(hl2:i2 < l.length)(L L':Nat→Bool)(u:World)(hL:∀j,j < l.length→L j=L' j)(h:Two i1 i2 W e1 s1 v1 n1 xs1 e2 s2 v2 n2 xs2 L u):Two i1 i2 W e1 s1 v1 n1 xs1 e2 s2 v2 n2 xs2 L' u:=
 ⟨h.1,fun h1=>h.2.1 ((hL i1 hl1).trans h1),fun h1=>h.2.2 ((hL i2 hl2).trans h1)⟩
theorem Two.step(hi:i1≠i2)(hne:e1≠e2)(L:Nat→Bool)(i:Nat)(u u':World)(hL:L i=false)(h:Two i1 i2 W e1 s1 v1 n1 xs1 e2 s2 v2 n2 xs2 L u)(hk:Kept (b4z i1 i2 v1 v2 i) u u'):Two i1 i2 W e1 s1 v1 n1 xs1 e2 s2 v2 n2 xs2 (fun j=>if j=i then true else L j) u':=by
 obtain⟨h1,h2,h3⟩:=h;unfold b4z at hk;by_cases h4:i=i1
 ·subst h4;rw [if_pos rfl]at hk;refine⟨h1.trans' (hk.more fun k _ h=>List.mem_append_left _ h),fun h=>?_,fun h=>?_⟩
  ·dsimp only at h;rw [if_pos rfl]at h;cases h
  ·dsimp only at h;rw [if_neg (Ne.symm hi)]at h
   exact(h3 h).kept hk fun k hk2 hm=>(h2 hL).ne_ (h3 h) hne k (Option.mem_toList.1 hm) hk2
 ·rw [if_neg h4]at hk;by_cases h5:i=i2
  ·subst h5;rw [if_pos rfl]at hk;refine⟨h1.trans' (hk.more fun k _ h=>List.mem_append_right _ h),fun h=>?_,fun h=>?_⟩
   ·dsimp only at h;rw [if_neg (Ne.symm h4)]at h
    exact(h2 h).kept hk fun k hk2 hm=>(h2 h).ne_ (h3 hL) hne k hk2 (Option.mem_toList.1 hm)
   ·dsimp only at h;rw [if_pos rfl]at h;cases h
  ·rw [if_neg h5]at hk;refine⟨h1.a0g hk,fun h=>?_,fun h=>?_⟩
   ·dsimp only at h;rw [if_neg (Ne.symm h4)]at h
    exact(h2 h).a0k hk
   ·dsimp only at h;rw [if_neg (Ne.symm h5)]at h
    exact(h3 h).a0k hk
theorem b4z.lt(h1:Ow W e1 s1 v1 n1 xs1)(h2:Ow W e2 s2 v2 n2 xs2)(k x:Nat)(h:x∈b4z i1 i2 v1 v2 k):x < W.heap.size:=by
 unfold b4z at h;split at h
 ·exact h1.lt (Option.mem_toList.1 h)
 ·split at h
  ·exact h2.lt (Option.mem_toList.1 h)
  ·cases h
theorem Two.size(L:Nat→Bool)(u:World)(h:Two i1 i2 W e1 s1 v1 n1 xs1 e2 s2 v2 n2 xs2 L u):W.heap.size≤u.heap.size:=h.1.size
theorem b4z.at1:b4z i1 i2 v1 v2 i1=v1.ownBlock.toList:=by unfold b4z;rw [if_pos rfl]
theorem b4z.at2(h:i1≠i2):b4z i1 i2 v1 v2 i2=v2.ownBlock.toList:=by unfold b4z;rw [if_neg (Ne.symm h),if_pos rfl]
theorem b4z.far1(k:Nat)(hk:k≠i1)(x:Nat)(h:x∈b4z i1 i2 v1 v2 k):x∈v2.ownBlock.toList:=by
 unfold b4z at h;rw [if_neg hk]at h;split at h
 ·exact h
 ·cases h
theorem b4z.far2(k:Nat)(hk:k≠i2)(x:Nat)(h:x∈b4z i1 i2 v1 v2 k):x∈v1.ownBlock.toList:=by
 unfold b4z at h;split at h
 ·exact h
 ·cases h
end
end
end Go.Txt
