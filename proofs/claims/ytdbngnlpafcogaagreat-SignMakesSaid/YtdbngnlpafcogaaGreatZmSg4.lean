/-
  The sign: Sign.
-/
import Derived.Test.YtdbngnlpafcogaaGreatZmSg3
import Derived.Test.YtdbngnlpafcogaaGreatZmSg4t
set_option maxRecDepth 100000
namespace Go.Proofs.YtdbngnlpafcogaaGreat
open Go.RowKit Go.Mem Go.Txt
theorem b4o{w w':World}{pv:Value}{ps:List (Value × List UInt8)}(qs:List (Value × List UInt8)){g n:Nat}{cs:Array Value}(hp:Parts w pv ps)(hi:∀x∈qs,Rd w 1 x.1 x.2.length (bv x.2))(m:Made w w' g 23 cs)(hc:cs=(qs.map (·.1)).toArray)(hq:n=qs.length)(hn:ps.length≤1000000000)(hm:qs.length≤1000) :
 Calls Tryz.prog 35 #[pv,.slice (some ⟨g,0,none⟩) n n] w' fun e w''=>∃v,e= .returned v∧Parts w'' v (qs ++ ps)∧Kept [] w' w'':=by
 subst hc;subst hq
 exact d0b pv g _ ps qs w' (hp.a1o m.kept) rfl (Ow.close m.blk (Nat.le_refl _) (by omega) (by simp) (by simp [List.take_of_length_le])) (fun x hx=>(hi x hx).a1o m.kept) hn hm
theorem e2d(pv:Value)(ps:List (Value × List UInt8))(m:List UInt8)(w:World)(hp:Parts w pv ps)(hj:a1k ps=m)(hn:ps.length≤9223372036854775807)(hl:m.length≤1000000000000) :
 Calls Tryz.prog 34 #[pv] w fun e w'=>e= .returned (Z.w4 (b5e m))∧Kept [] w w':=by
 subst hj
 exact c7r pv ps w hp hn hl
theorem c2c(m:List UInt8):b5e m < Z.LL:=Nat.mod_lt _ (by decide)
def rS(bs m:List UInt8):Nat:=b5e ((Q.sha bs).drop 32 ++ m)
def RS(bs m:List UInt8):List UInt8:=b3b (le (rS bs m) 32)
def hS(bs m:List UInt8):Nat:=b5e (RS bs m ++ (b3b (a7q bs) ++ m))
def sS(bs m:List UInt8):Nat:=(rS bs m + hS bs m * (Z.leV (a7q bs) % Z.LL) % Z.LL) % Z.LL
def a9r(bs m:List UInt8):List UInt8:=RS bs m ++ le (sS bs m) 32
theorem a5h(xs:Array Value)(w:World):(callFunc 36 xs).run Tryz.prog w= .ok (.enter 36 xs) w:=enters_of (c:=_) Tryz.func36 (by kernel_rfl) rfl xs w
theorem b4k(xs:Array Value)(w:World):(callFunc 35 xs).run Tryz.prog w= .ok (.enter 35 xs) w:=enters_of (c:=_) Tryz.func35 (by kernel_rfl) rfl xs w
theorem b0a(xs:Array Value)(w:World):(callFunc 34 xs).run Tryz.prog w= .ok (.enter 34 xs) w:=enters_of (c:=_) Tryz.func34 (by kernel_rfl) rfl xs w
theorem b7z(xs:Array Value)(w:World):(callFunc 39 xs).run Tryz.prog w= .ok (.enter 39 xs) w:=enters_of (c:=_) Tryz.func39 (by kernel_rfl) rfl xs w
theorem b9j(xs:Array Value)(w:World):(callFunc 38 xs).run Tryz.prog w= .ok (.enter 38 xs) w:=enters_of (c:=_) Tryz.func38 (by kernel_rfl) rfl xs w
theorem b9g(xs:Array Value)(w:World):(callFunc 37 xs).run Tryz.prog w= .ok (.enter 37 xs) w:=enters_of (c:=_) Tryz.func37 (by kernel_rfl) rfl xs w
theorem b4x:(Tryz.prog.info? 32).map (·.zero)=some (some (ab (a0p 64))):=Q.d5t
set_option maxHeartbeats 3200000 in
theorem c9w{bs n A t RB SB l1:List UInt8}{b p1 b2 p2:P4}{r h x y s:Nat}(hl:bs.length=32)(hn:n.length=32)(hA:A.length=32)(hR:RB.length=32)(hS:SB.length=32)(hl1:l1.length=32)(ht:t.length=32)
 (pv:Value) (ps:List (Value × List UInt8)) (w:World) (hp:Parts w pv ps) (hn2:ps.length≤1000000000)
 (cse:∀u,Calls Tryz.prog 30 #[ab bs] u fun e w'=>∃g,e= .returned (.tuple #[ab n,.slice (some ⟨g,32,none⟩) 32 32])∧Rd w' 1 (.slice (some ⟨g,32,none⟩) 32 32) 32 (bv t)∧Kept [] u w'∧u.heap.size≤g)
 (cb:BsC b) (cp1:MsC b n p1) (ch1:HsC p1 A)
 (cr:∀u v z,Parts u v ((z,t) :: ps)→Calls Tryz.prog 34 #[v] u fun e w'=>e= .returned (Z.w4 r)∧Kept [] u w')
 (chr:∀u,Calls Tryz.prog 36 #[Z.w4 r] u fun e w'=>e= .returned (ab l1)∧Kept [] u w')
 (cb2:BsC b2) (cp2:MsC b2 l1 p2) (ch2:HsC p2 RB)
 (ch:∀u v z1 z2,Parts u v ((z1,RB) :: (z2,A) :: ps)→Calls Tryz.prog 34 #[v] u fun e w'=>e= .returned (Z.w4 h)∧Kept [] u w')
 (cmod:∀u,Calls Tryz.prog 39 #[ab n] u fun e w'=>e= .returned (Z.w4 x)∧Kept [] u w')
 (cmul:∀u,Calls Tryz.prog 38 #[Z.w4 h,Z.w4 x] u fun e w'=>e= .returned (Z.w4 y)∧Kept [] u w')
 (cadd:∀u,Calls Tryz.prog 37 #[Z.w4 r,Z.w4 y] u fun e w'=>e= .returned (Z.w4 s)∧Kept [] u w')
 (chs:∀u,Calls Tryz.prog 36 #[Z.w4 s] u fun e w'=>e= .returned (ab SB)∧Kept [] u w') :
 Calls Tryz.prog 10 #[ab bs,pv] w fun e w'=>e= .returned (ab (RB ++ SB))∧Kept [] w w':=by
 replace hl:=hjd hl
 replace hn:=hjd hn
 replace hA:=hjd hA
 replace hR:=hjd hR
 replace hS:=hjd hS
 replace hl1:=hjd hl1
 replace ht:=hjd ht
 replace hp:=hjd hp
 replace hn2:=hjd hn2
 replace cse:=hjd cse
 replace cb:=hjd cb
 replace cp1:=hjd cp1
 replace ch1:=hjd ch1
 replace cr:=hjd cr
 replace chr:=hjd chr
 replace cb2:=hjd cb2
 replace cp2:=hjd cp2
 replace ch2:=hjd ch2
 replace ch:=hjd ch
 replace cmod:=hjd cmod
 replace cmul:=hjd cmul
 replace cadd:=hjd cadd
 replace chs:=hjd chs
 obtain⟨PA,pc,e0,_,_,_⟩:=hp.out.outer
 subst e0
 go_enter Tryz.func10,Tryz.ntmps10
 go_wp2_with (first
  | ((with_reducible refine a0q 2 ?_);(refine a0m (o:=⟨some 2,_,_,_,_,_⟩) (v:=ab bs) rfl (.tmp 0) rfl rfl ?_);intro g1 w1 m1;have M1:=hjd m1;clear m1)
  | ((with_reducible refine a0q 4 ?_);(refine a0f (o:=⟨some 4,_,_,_,_,_⟩) rfl rfl b4x ?_);intro g2 w2 m2;have M2:=hjd m2;clear m2)
  | ((with_reducible refine a0q 14 ?_);refine a0a (cs:=(bv bs).toArray) (o:=⟨some 14,_,_,_,_,_⟩) a1u.row rfl (.tmp 2) rfl rfl (M1.out.blk.kept M2.out.kept (by simp)) (by simpa using hl.out) ?_)
  | (go_at_call 30;(with_reducible refine(cse.out _).mono ?_);rintro e w7 ⟨g,rfl,r7,k7,l7⟩
     have B4:=hjd (M2.out.blk.kept k7 (by simp))
     have L4:=hjd (Nat.le_trans M1.out.kept.size M2.out.le)
     have KK:=hjd ((M1.out.kept.a0i M2.out.kept).a0i k7)
     have R6:=hjd r7
     clear r7 k7 l7)
  | ((with_reducible refine a0q 5 ?_);(refine a0f (o:=⟨some 5,_,_,_,_,_⟩) rfl rfl a3h ?_);intro g5 w5 m5
     refine a0b (cs:=(bv n).toArray) (o:=⟨none,Op.store 22 (.tmp 5) (.tmp 16),_,_,_,_⟩) a1u.row rfl (.tmp 5) (.tmp 16) rfl rfl rfl m5.blk (by rfl) (by simpa using hn.out) (a2a _) ?_
     intro wb b5 k5
     have kk:=m5.kept.a0n k5 m5.le
     have B5:=hjd b5
     have N45:=hjd (m5.ne B4.out.lt)
     replace B4:=hjd (B4.out.kept kk (by simp))
     replace R6:=hjd (R6.out.a1o kk)
     replace KK:=hjd (KK.out.a0i kk)
     clear m5 b5 k5 kk))
 clear cse M1 M2
 refine Txt.a4l (by kernel_rfl) [Txt.isV b.v,Txt.isV (ab n),Txt.isV p1.v,Txt.isV (ab A),Txt.a4z wb.heap.size 22 (ab (a0p 32)).cells] (fun u=>Kept [] wb u) (by kernel_rfl) rfl rfl (by kernel_rfl) ((Kept.refl [] wb).drew) (fun u u' h k=>h.a0i k) ⟨?_,?_,?_,?_,?_,trivial⟩ ?_
 ·exact Txt.b5m rfl a5l cb.out
 ·exact Txt.a2e a1u.row rfl rfl (by decide) B5.out (by simpa using hn.out)
 ·exact Txt.a8q (x:=18) (x2:=19) (j:=0) (j2:=1) rfl b4i rfl rfl rfl ⟨⟨0,.data⟩,by simp,rfl,rfl⟩ rfl rfl rfl ⟨⟨1,.data⟩,by simp,rfl,rfl⟩ cp1.out
 ·exact Txt.a3w (x:=20) (j:=2) rfl a8i rfl rfl rfl ⟨⟨2,.data⟩,by simp,rfl,rfl⟩ ch1.out
 ·exact Txt.a4m rfl a3h
 intro v wc kc hv
 have v0:v 0=b.v:=hv 0 _ rfl
 have v1:v 1=ab n:=hv 1 _ rfl
 have v2:v 2=p1.v:=hv 2 _ rfl
 have v3:v 3=ab A:=hv 3 _ rfl
 have h4:Txt.a4z wb.heap.size 22 (ab (a0p 32)).cells (v 4) wc:=hv 4 _ rfl
 clear hv
 simp [Txt.a0w,List.range,List.range.loop,Act.put,v0,v1,v2,v3]
 generalize v 4=u4 at *
 clear v0 v1 v2 v3
 obtain⟨g7,rfl,b7,l7⟩:=h4.get
 clear h4
 refine Txt.a7j a1u.row rfl rfl rfl b7 (by rfl) (by simpa using hA.out) (a2a _) ?_
 intro wd b7 k7
 simp [Act.put]
 replace b7:=hjd b7
 have kk:=kc.a0n k7 l7
 have N7:=hjd (show g2≠g7 from fun e=>by have:=B4.out.lt;omega)
 replace B4:=hjd (B4.out.kept kk (by simp))
 replace B5:=hjd (B5.out.kept kk (by simp))
 replace R6:=hjd (R6.out.a1o kk)
 replace KK:=hjd (KK.out.a0i kk)
 clear kc k7 l7 kk
 have PP:=hjd (hp.out.a1o KK.out)
 go_wp2_with (first
  | ((with_reducible refine a0q 24 ?_);(refine a2b (o:=⟨some 24,_,_,_,_,_⟩) (v0:=.slice (some ⟨g,32,none⟩) 32 32) (cells:=#[.slice (some ⟨g,32,none⟩) 32 32]) rfl a3n rfl rfl (by simp) rfl rfl ?_);intro g24 w24 m24
     have cw:=hjd (b4o (n:=1) [(.slice (some ⟨g,32,none⟩) 32 32,t)] PP.out (by simpa [ht.out]using R6.out) m24 rfl rfl hn2.out (by simp))
     have K24:=hjd m24.kept
     clear m24)
  | (go_at_call 35;(with_reducible refine cw.out.mono ?_);rintro e w25 ⟨v25,rfl,p25,k25⟩
     have P25:=hjd p25
     have K25:=hjd (K24.out.a0i k25)
     clear p25 k25 cw)
  | (go_at_call 34;(with_reducible refine(cr.out _ _ _ P25.out).mono ?_);rintro e w26 ⟨rfl,k26⟩
     replace K25:=hjd (K25.out.a0i k26)
     clear k26 P25)
  | ((with_reducible refine a0q 8 ?_);(refine a0f (o:=⟨some 8,_,_,_,_,_⟩) rfl rfl Z.a7o ?_);intro g8 w8 m8
     refine a0b (o:=⟨none,Op.store 78 (.tmp 8) (.tmp 26),_,_,_,_⟩) Z.a1x rfl (.tmp 8) (.tmp 26) rfl rfl rfl m8.blk rfl rfl (a2d _) ?_
     intro wb8 b8 k8
     have kk:=K25.out.a0i (m8.kept.a0n k8 m8.le)
     have B8:=hjd b8
     replace B4:=hjd (B4.out.kept kk (by simp))
     replace B5:=hjd (B5.out.kept kk (by simp))
     replace b7:=hjd (b7.out.kept kk (by simp))
     replace KK:=hjd (KK.out.a0i kk)
     clear m8 b8 k8 kk K25 R6 PP))
 refine Txt.a4l (by kernel_rfl) [Txt.isV b2.v,Txt.isV (Z.w4 r),Txt.isV (ab l1),Txt.isV p2.v,Txt.isV (ab RB),Txt.a4z wb8.heap.size 22 (ab (a0p 32)).cells] (fun u=>Kept [] wb8 u) (by kernel_rfl) rfl rfl (by kernel_rfl) ((Kept.refl [] wb8).drew) (fun u u' h k=>h.a0i k) ⟨?_,?_,?_,?_,?_,?_,trivial⟩ ?_
 ·exact Txt.b5m rfl a5l cb2.out
 ·exact Txt.a2e Z.a1x rfl rfl (by decide) B8.out rfl
 ·exact Txt.a3w (x:=28) (j:=1) rfl a5h rfl rfl rfl ⟨⟨1,.data⟩,by simp,rfl,rfl⟩ chr.out
 ·exact Txt.a8q (x:=27) (x2:=29) (j:=0) (j2:=2) rfl b4i rfl rfl rfl ⟨⟨0,.data⟩,by simp,rfl,rfl⟩ rfl rfl rfl ⟨⟨2,.data⟩,by simp,rfl,rfl⟩ cp2.out
 ·exact Txt.a3w (x:=30) (j:=3) rfl a8i rfl rfl rfl ⟨⟨3,.data⟩,by simp,rfl,rfl⟩ ch2.out
 ·exact Txt.a4m rfl a3h
 intro v wc kc hv
 have v0:v 0=b2.v:=hv 0 _ rfl
 have v1:v 1=Z.w4 r:=hv 1 _ rfl
 have v2:v 2=ab l1:=hv 2 _ rfl
 have v3:v 3=p2.v:=hv 3 _ rfl
 have v4:v 4=ab RB:=hv 4 _ rfl
 have h5:Txt.a4z wb8.heap.size 22 (ab (a0p 32)).cells (v 5) wc:=hv 5 _ rfl
 clear hv
 simp [Txt.a0w,List.range,List.range.loop,Act.put,v0,v1,v2,v3,v4]
 generalize v 5=u5 at *
 clear v0 v1 v2 v3 v4
 obtain⟨g9,rfl,b9,l9⟩:=h5.get
 clear h5
 refine Txt.a7j a1u.row rfl rfl rfl b9 (by rfl) (by simpa using hR.out) (a2a _) ?_
 intro wd b9 k9
 simp [Act.put]
 replace b9:=hjd b9
 have kk:=kc.a0n k9 l9
 replace B4:=hjd (B4.out.kept kk (by simp))
 replace B5:=hjd (B5.out.kept kk (by simp))
 replace b7:=hjd (b7.out.kept kk (by simp))
 replace B8:=hjd (B8.out.kept kk (by simp))
 replace KK:=hjd (KK.out.a0i kk)
 clear kc k9 l9 kk
 have PP:=hjd (hp.out.a1o KK.out)
 have D7:=hjd (show Rd wd 1 (.slice (some ⟨g7,0,none⟩) 32 32) A.length (bv A)from by rw [hA.out];exact Blk.rd b7.out (by simp [hA.out]) (Nat.le_refl _))
 have D9:=hjd (show Rd wd 1 (.slice (some ⟨g9,0,none⟩) 32 32) RB.length (bv RB)from by rw [hR.out];exact Blk.rd b9.out (by simp [hR.out]) (Nat.le_refl _))
 go_wp2_with fail
 refine Txt.a4l (by kernel_rfl) [Txt.isV (.slice PA ps.length pc),Txt.isV (.slice (some ⟨g9,0,none⟩) 32 32),Txt.isV (.slice (some ⟨g7,0,none⟩) 32 32),c9p wd.heap.size (.slice (some ⟨g9,0,none⟩) 32 32) (.slice (some ⟨g7,0,none⟩) 32 32),a7z ((.slice (some ⟨g9,0,none⟩) 32 32,RB) :: (.slice (some ⟨g7,0,none⟩) 32 32,A) :: ps),Txt.isV (Z.w4 h),Txt.a4z wd.heap.size 78 (Z.w4 0).cells] (fun u=>Kept [] wd u) (by kernel_rfl) rfl rfl (by kernel_rfl) ((Kept.refl [] wd).drew) (fun u u' h k=>h.a0i k) ⟨?_,?_,?_,?_,?_,?_,?_,trivial⟩ ?_
 ·exact a2s (x:=1) rfl (by decide) fun a W hx=>a9s rfl W hx
 ·exact a2s (x:=9) rfl (by decide) fun a W hx=>a5k rfl W hx
 ·exact a2s (x:=7) rfl (by decide) fun a W hx=>a5k rfl W hx
 ·exact c5c (x:=33) (y:=34) (j:=1) (k:=2) rfl rfl rfl rfl rfl rfl ⟨⟨1,.data⟩,by simp,rfl,rfl⟩ rfl rfl rfl ⟨⟨2,.data⟩,by simp,rfl,rfl⟩
 ·refine Txt.a1w rfl b4k (fun v u u' h k=>Parts.a1o h k) fun a u hS hr _=>?_
  have e1:a.tmps.getD 32 undef= .slice PA ps.length pc:=hr 0 _ 32 _ rfl rfl rfl ⟨⟨0,.data⟩,by simp,rfl,rfl⟩
  have e2:c9p wd.heap.size (.slice (some ⟨g9,0,none⟩) 32 32) (.slice (some ⟨g7,0,none⟩) 32 32) (a.tmps.getD 35 undef) u:=hr 3 _ 35 _ rfl rfl rfl ⟨⟨3,.data⟩,by simp,rfl,rfl⟩
  obtain⟨g,h1,h2,h3⟩:=e2
  have:Array.map a.eval #[.tmp 32,.tmp 35]= #[.slice PA ps.length pc,.slice (some ⟨g,0,none⟩) 2 2]:=by simp only [List.map_toArray,List.map_cons,List.map_nil,Act.eval,e1,h1]
  rw [this]
  refine(b4o (n:=2) [(.slice (some ⟨g9,0,none⟩) 32 32,RB),(.slice (some ⟨g7,0,none⟩) 32 32,A)] PP.out (by simpa using⟨D9.out,D7.out⟩) ⟨h2,hS,h3⟩ rfl rfl hn2.out (by simp)).mono ?_
  rintro e u' ⟨v,rfl,hv,hk⟩
  exact⟨v,rfl,hv,hk⟩
 ·refine Txt.a1w rfl b0a (fun _ _ _ h _=>h) fun a u hS hr _=>?_
  have e1:a7z ((.slice (some ⟨g9,0,none⟩) 32 32,RB) :: (.slice (some ⟨g7,0,none⟩) 32 32,A) :: ps) (a.tmps.getD 36 undef) u:=hr 4 _ 36 _ rfl rfl rfl ⟨⟨4,.data⟩,by simp,rfl,rfl⟩
  have:Array.map a.eval #[.tmp 36]= #[a.tmps.getD 36 undef]:=by simp only [List.map_toArray,List.map_cons,List.map_nil,Act.eval]
  rw [this]
  refine(ch.out _ _ _ _ e1).mono ?_
  rintro e u' ⟨rfl,hk⟩
  exact⟨_,rfl,rfl,hk⟩
 ·exact Txt.a4m rfl Z.a7o
 intro v wc kc hv
 have v0:v 0= .slice PA ps.length pc:=hv 0 _ rfl
 have v1:v 1= .slice (some ⟨g9,0,none⟩) 32 32:=hv 1 _ rfl
 have v2:v 2= .slice (some ⟨g7,0,none⟩) 32 32:=hv 2 _ rfl
 have v5:v 5=Z.w4 h:=hv 5 _ rfl
 have h6:Txt.a4z wd.heap.size 78 (Z.w4 0).cells (v 6) wc:=hv 6 _ rfl
 clear hv
 simp [Txt.a0w,List.range,List.range.loop,Act.put,v0,v1,v2,v5]
 generalize v 3=u33 at *
 generalize v 4=u34 at *
 generalize v 6=u6 at *
 clear v0 v1 v2 v5
 obtain⟨g10,rfl,b10,l10⟩:=h6.get
 clear h6
 refine Txt.a7j Z.a1x rfl rfl rfl b10 rfl rfl (a2d _) ?_
 intro we b10 k10
 simp [Act.put]
 replace b10:=hjd b10
 have kk:=kc.a0n k10 l10
 replace B4:=hjd (B4.out.kept kk (by simp))
 replace B5:=hjd (B5.out.kept kk (by simp))
 replace b9:=hjd (b9.out.kept kk (by simp))
 replace B8:=hjd (B8.out.kept kk (by simp))
 replace KK:=hjd (KK.out.a0i kk)
 clear kc k10 l10 kk PP D7 D9 b7
 go_wp2_with fail
 refine Txt.a4l (by kernel_rfl) [Txt.isV (Z.w4 r),Txt.isV (Z.w4 h),Txt.isV (ab n),Txt.isV (Z.w4 x),Txt.isV (Z.w4 y),Txt.isV (Z.w4 s),Txt.isV (ab SB),Txt.a4z we.heap.size 22 (ab (a0p 32)).cells] (fun u=>Kept [] we u) (by kernel_rfl) rfl rfl (by kernel_rfl) ((Kept.refl [] we).drew) (fun u u' h k=>h.a0i k) ⟨?_,?_,?_,?_,?_,?_,?_,?_,trivial⟩ ?_
 ·exact Txt.a2e Z.a1x rfl rfl (by decide) B8.out rfl
 ·exact Txt.a2e Z.a1x rfl rfl (by decide) b10.out rfl
 ·exact Txt.a2e a1u.row rfl rfl (by decide) B5.out (by simpa using hn.out)
 ·exact Txt.a3w (x:=40) (j:=2) rfl b7z rfl rfl rfl ⟨⟨2,.data⟩,by simp,rfl,rfl⟩ cmod.out
 ·exact Txt.a8q (x:=39) (x2:=41) (j:=1) (j2:=3) rfl b9j rfl rfl rfl ⟨⟨1,.data⟩,by simp,rfl,rfl⟩ rfl rfl rfl ⟨⟨3,.data⟩,by simp,rfl,rfl⟩ cmul.out
 ·exact Txt.a8q (x:=38) (x2:=42) (j:=0) (j2:=4) rfl b9g rfl rfl rfl ⟨⟨0,.data⟩,by simp,rfl,rfl⟩ rfl rfl rfl ⟨⟨4,.data⟩,by simp,rfl,rfl⟩ cadd.out
 ·exact Txt.a3w (x:=43) (j:=5) rfl a5h rfl rfl rfl ⟨⟨5,.data⟩,by simp,rfl,rfl⟩ chs.out
 ·exact Txt.a4m rfl a3h
 intro v wc kc hv
 have v0:v 0=Z.w4 r:=hv 0 _ rfl
 have v1:v 1=Z.w4 h:=hv 1 _ rfl
 have v2:v 2=ab n:=hv 2 _ rfl
 have v3:v 3=Z.w4 x:=hv 3 _ rfl
 have v4:v 4=Z.w4 y:=hv 4 _ rfl
 have v5:v 5=Z.w4 s:=hv 5 _ rfl
 have v6:v 6=ab SB:=hv 6 _ rfl
 have h7:Txt.a4z we.heap.size 22 (ab (a0p 32)).cells (v 7) wc:=hv 7 _ rfl
 clear hv
 simp [Txt.a0w,List.range,List.range.loop,Act.put,v0,v1,v2,v3,v4,v5,v6]
 generalize v 7=u7 at *
 clear v0 v1 v2 v3 v4 v5 v6
 obtain⟨g11,rfl,b11,l11⟩:=h7.get
 clear h7
 refine Txt.a7j a1u.row rfl rfl rfl b11 (by rfl) (by simpa using hS.out) (a2a _) ?_
 intro wf b11 k11
 simp [Act.put]
 replace b11:=hjd b11
 have kk:=kc.a0n k11 l11
 replace B4:=hjd (B4.out.kept kk (by simp))
 replace b9:=hjd (b9.out.kept kk (by simp))
 replace KK:=hjd (KK.out.a0i kk)
 clear kc k11 l11 kk B5 B8 b10
 go_wp2_with ((refine a0f (o:=⟨some 12,_,_,_,_,_⟩) rfl rfl b4x ?_);intro g12 wg m12)
 have hz:=hjd (show(bv RB).length=32 by simp [hR.out])
 have hz2:=hjd (show(bv SB).length=32 by simp [hS.out])
 have b12:=m12.blk
 have D9:=hjd (show Rd wg 1 (.slice (some ⟨g9,0,none⟩) 32 32) 32 (bv RB)from Blk.rd (b9.out.kept m12.kept (by simp)) hz.out (Nat.le_refl _))
 have M12:=hjd m12
 clear m12
 refine Txt.a3a (by kernel_rfl) (by kernel_rfl) ?_
 go_wp2_with (refine c1w a2x rfl (.tmp 45) (.tmp 46) rfl rfl b12.drew (Nat.le_of_eq rfl) rfl D9.out.drew (a5z _) ?_;intro wh b13 k13;clear b12)
 have e1:(a5u (ab (a0p 64)).cells.toList 0 (List.take 64 (bv RB))).toArray=(bv (a5u (a0p 64) 0 RB)).toArray:=by
  rw [List.take_of_length_le (by rw [hz.out];omega)]
  exact congrArg _ (c2m (a0p 64) _ 0)
 rw [e1]at b13
 refine⟨rfl,by kernel_rfl,?_⟩
 clear e1
 have N11:=hjd (M12.out.ne b11.out.lt)
 have N4:=hjd (M12.out.ne B4.out.lt)
 have K13:=hjd k13.a1v
 have B13:=hjd b13
 replace b11:=hjd ((b11.out.kept M12.out.kept (by simp)).kept K13.out (by simpa using N11.out))
 replace B4:=hjd ((B4.out.kept M12.out.kept (by simp)).kept K13.out (by simpa using N4.out))
 have L12:=hjd (Nat.le_trans KK.out.size M12.out.le)
 replace KK:=hjd ((KK.out.a0i M12.out.kept).a0n K13.out L12.out)
 clear b13 k13 K13 M12 D9 b9
 go_wp2_with fail
 have hz3:=hjd (show(a5u (a0p 64) 0 RB).length=64 by rw [a4u _ _ _ (by simp [hR.out])];simp)
 have D11:=hjd (show Rd _ 1 (.slice (some ⟨g11,0,none⟩) 32 32) 32 (bv SB)from Blk.rd b11.out hz2.out (Nat.le_refl _))
 refine Txt.a3a (by kernel_rfl) (by kernel_rfl) ?_
 go_wp2_with (refine c1w a2x rfl (.tmp 48) (.tmp 49) rfl rfl B13.out.drew (by simp [hz3.out]) rfl D11.out.drew (a5z _) ?_;intro wi b14 k14)
 have e2:(a5u (bv (a5u (a0p 64) 0 RB)).toArray.toList 32 (List.take 32 (bv SB))).toArray=(bv (RB ++ SB)).toArray:=by
  rw [List.take_of_length_le (by rw [hz2.out];omega)]
  show(a5u (bv (a5u (a0p 64) 0 RB)) 32 (bv SB)).toArray=_
  rw [c2m,d6u]
  unfold a5u
  have h1:(a0p 64).drop RB.length=a0p 32:=by rw [hR.out];rfl
  have h2:(RB ++ a0p 32).take 32=RB:=by rw [←hR.out];simp
  have h3:(RB ++ a0p 32).drop (32 + SB.length)= []:=by rw [hS.out];simp [hR.out]
  rw [h1,h2,h3,List.append_nil]
 rw [e2]at b14
 refine⟨rfl,by kernel_rfl,?_⟩
 clear e2
 have K14:=hjd k14.a1v
 have B14:=hjd b14
 replace B4:=hjd (B4.out.kept K14.out (by simpa using N4.out))
 replace KK:=hjd (KK.out.a0n K14.out L12.out)
 have hzz:=hjd (show(RB ++ SB).length=64 by simp [hR.out,hS.out])
 obtain⟨OUT,hO⟩:∃O,O=RB ++ SB:=⟨_,rfl⟩
 rw [←hO]at B14 hzz
 replace hO:=hjd hO
 clear b14 k14 K14 b11 D11 hz hz2 hz3
 go_wp2_with (first
  | refine a0a (cs:=(bv OUT).toArray) (o:=⟨some 51,_,_,_,_,_⟩) Q.b4d rfl (.tmp 12) rfl rfl B14.out (by simpa using hzz.out) ?_
  | ((refine a0b (cs:=(bv OUT).toArray) (o:=⟨none,Op.store 32 (.tmp 4) (.tmp 51),_,_,_,_⟩) Q.b4d rfl (.tmp 4) (.tmp 51) rfl rfl rfl B4.out (by rfl) (by simpa using hzz.out) (a2a _) ?_);intro wz bz kz))
 exact a0y Q.b4d rfl rfl bz (by simpa using hzz.out) rfl ⟨by rw [hO.out],KK.out.a0n kz L4.out⟩
theorem c4g(bs:List UInt8)(hl:bs.length=32)(pv:Value)(ps:List (Value × List UInt8))(m:List UInt8)(w:World)(hp:Parts w pv ps)(hj:a1k ps=m)(hn:ps.length≤1000000000)(hm:m.length≤100000000000) :
 Calls Tryz.prog 10 #[ab bs,pv] w fun e w'=>e= .returned (ab (a9r bs m))∧Kept [] w w':=by
 obtain⟨b,p1,cb,cp1,ch1⟩:=e2s (a5w bs)
 obtain⟨b2,p2,cb2,cp2,ch2⟩:=e2s (a0o (rS bs m) 32)
 have hd:((Q.sha bs).drop 32).length=32:=by simp [Q.a6g]
 have hAl:=a5i (a7q bs)
 have hRl:(RS bs m).length=32:=a5i _
 refine c9w hl (a5w bs) hAl hRl (a0o (sS bs m) 32) (a0o _ _) hd pv ps w hp hn (fun u=>b5r bs hl u) cb cp1 ch1 (r:=rS bs m) (h:=hS bs m) (x:=Z.leV (a7q bs) % Z.LL) (y:=hS bs m * (Z.leV (a7q bs) % Z.LL) % Z.LL) (s:=sS bs m) ?_ (fun u=>Z.b2u _ u) cb2 cp2 ch2 ?_ (fun u=>Z.c6u _ (a5w bs) u) (fun u=>Z.c3e _ _ (Nat.lt_trans (c2c _) Z.e5j) (Nat.lt_trans (Nat.mod_lt _ Z.c0b) Z.e5j) u) (fun u=>Z.e6j _ _ (c2c _) (Nat.mod_lt _ Z.c0b) u) (fun u=>Z.b2u _ u)
 ·intro u v z hz
  exact e2d v _ _ u hz (by rw [←hj];rfl) (by simp;omega) (by simp [hd];omega)
 ·intro u v z1 z2 hz
  exact e2d v _ _ u hz (by rw [←hj];rfl) (by simp;omega) (by simp [hAl,hRl];omega)
end Go.Proofs.YtdbngnlpafcogaaGreat
