/-
  The document's sign: a seed's key.
-/
import Derived.Test.YtdbngnlpafcogaaGreatZmRs2
import Derived.Test.YtdbngnlpafcogaaGreatZmSzg
import Derived.Test.YtdbngnlpafcogaaGreatZmRr7
set_option maxRecDepth 100000
namespace Go.Proofs.YtdbngnlpafcogaaGreat
open Go.RowKit Go.Mem Go.Txt
theorem c3b(xs:Array Value)(w:World):(callFunc 43 xs).run Tryz.prog w= .ok (.enter 43 xs) w:=enters_of (c:=_) Tryz.func43 (by kernel_rfl) rfl xs w
theorem b0z(xs:Array Value)(w:World):(callFunc 40 xs).run Tryz.prog w= .ok (.enter 40 xs) w:=enters_of (c:=_) Tryz.func40 (by kernel_rfl) rfl xs w
theorem c2t(xs:Array Value)(w:World):(callFunc 45 xs).run Tryz.prog w= .ok (.enter 45 xs) w:=enters_of (c:=_) Tryz.func45 (by kernel_rfl) rfl xs w
theorem b4f(xs:Array Value)(w:World):(callFunc 44 xs).run Tryz.prog w= .ok (.enter 44 xs) w:=enters_of (c:=_) Tryz.func44 (by kernel_rfl) rfl xs w
theorem c1a(xs:Array Value)(w:World):(callFunc 47 xs).run Tryz.prog w= .ok (.enter 47 xs) w:=enters_of (c:=_) Tryz.func47 (by kernel_rfl) rfl xs w
theorem b9p(xs:Array Value)(w:World):(callFunc 46 xs).run Tryz.prog w= .ok (.enter 46 xs) w:=enters_of (c:=_) Tryz.func46 (by kernel_rfl) rfl xs w
def a8e(bs:List UInt8):Rel:=fun v w=>Rd w 1 v bs.length (bv bs)
theorem a8e.a1o{bs:List UInt8}{v:Value}{w w':World}(h:a8e bs v w)(k:Kept [] w w'):a8e bs v w':=Rd.a1o h k
theorem d0n(pv:Value)(ps:List (Value × List UInt8))(m:List UInt8)(u:World)(hp:Parts u pv ps)(hj:a1k ps=m)(hn:ps.length≤1000000000)(hl:m.length≤100000000000) :
 Calls Tryz.prog 45 #[pv] u fun e w'=>∃v',e= .returned v'∧a8e (Q.sha m) v' w'∧Kept [] u w':=by
 subst hj
 refine(Q.c0g pv ps u hp (by omega) (by omega)).mono ?_
 rintro e w' ⟨v',rfl,hn⟩
 exact⟨v',rfl,New.rd hn,hn.kept⟩
theorem e4q(v:Value)(s:List UInt8)(u:World)(h:a8e s v u)(hl:s.length≤1000):Calls Tryz.prog 44 #[v] u fun e w'=>e= .returned (ab (le (leV s % LL) 32))∧Kept [] u w':=by
 have:=Z.b6p v s u h hl
 rw [c7w]at this
 exact this
theorem e1h{dc:Nat→Int}(hD:Dq 70000 dc Ed.D){l:List UInt8}(hl:l.length=32):∃b r,RbC dc b∧RmuC dc b l r∧e7r r (b3b l):=by
 obtain⟨b,cb,hb⟩:=e4e hD
 obtain⟨r,cr,hr⟩:=e6v hD hb hl
 exact⟨b,r,cb,cr,rbytes hr⟩
set_option maxHeartbeats 3200000 in
theorem d2n{dc:Nat→Int}{bs n E:List UInt8}{b r:R4}(hl:bs.length=32)(hE:E.length=32)(cb:RbC dc b)(cn:∀u,Calls Tryz.prog 43 #[ab bs] u fun e w'=>e= .returned (ab n)∧Kept [] u w')(cr:RmuC dc b n r)(ch:e7r r E)(w:World) :
 Calls Tryz.prog 11 #[nu dc,ab bs] w fun e w'=>e= .returned (ab E)∧Kept [] w w':=by
 replace hl:=hjd hl
 replace hE:=hjd hE
 replace cb:=hjd cb
 replace cn:=hjd cn
 replace cr:=hjd cr
 replace ch:=hjd ch
 go_enter Tryz.func11,Tryz.ntmps11
 go_wp2_with (first
  | ((with_reducible refine a0q 2 ?_);(refine a0m (o:=⟨some 2,_,_,_,_,_⟩) (v:=nu dc) rfl (.tmp 0) rfl rfl ?_);intro g2 w2 m2;have B2:=hjd (show Blk w2 g2 29 (iv (fam 16 dc)).toArray from m2.blk);have KK:=hjd m2.kept;clear m2)
  | ((with_reducible refine a0q 3 ?_);(refine a0m (o:=⟨some 3,_,_,_,_,_⟩) (v:=ab bs) rfl (.tmp 1) rfl rfl ?_);intro g3 w3 m3;have B3:=hjd m3.blk;replace B2:=hjd (B2.out.kept m3.kept (by simp));replace KK:=hjd (KK.out.a0i m3.kept);clear m3)
  | ((with_reducible refine a0q 4 ?_);(refine a0f (o:=⟨some 4,_,_,_,_,_⟩) rfl rfl a3h ?_);intro g4 w4 m4;have B4:=hjd m4.blk;have L4:=hjd (Nat.le_trans KK.out.size m4.le);replace B2:=hjd (B2.out.kept m4.kept (by simp));replace B3:=hjd (B3.out.kept m4.kept (by simp));replace KK:=hjd (KK.out.a0i m4.kept);clear m4))
 refine Txt.a4l (by kernel_rfl) [Txt.isV (nu dc),Txt.isV (nu dc),Txt.isV b.v,Txt.isV (ab bs),Txt.isV (ab n),Txt.isV r.v,Txt.isV (ab E)] (fun u=>Kept [] w4 u) (by kernel_rfl) rfl rfl (by kernel_rfl) ((Kept.refl [] w4).drew) (fun u u2 h k=>h.a0i k) ⟨?_,?_,?_,?_,?_,?_,?_,trivial⟩ ?_
 ·exact Txt.a2e a3c rfl rfl (by decide) B2.out rfl
 ·exact Txt.a2e a3c rfl rfl (by decide) B2.out rfl
 ·refine Txt.a1w rfl b2f (fun _ _ _ h _=>h) fun a u hS hr _=>?_
  have e0:a.tmps.getD 6 undef=(nu dc):=hr 1 _ 6 _ rfl rfl rfl ⟨⟨1,.data⟩,by simp,rfl,rfl⟩
  have hm:Array.map a.eval #[.tmp 6]= #[(nu dc)]:=by simp only [List.map_toArray,List.map_cons,List.map_nil,Act.eval,e0]
  rw [hm]
  refine(cb.out u).mono ?_
  rintro e u2 ⟨rfl,hk⟩
  exact⟨_,rfl,rfl,hk⟩
 ·exact Txt.a2e a1u.row rfl rfl (by decide) B3.out (by simpa using hl.out)
 ·refine Txt.a1w rfl c3b (fun _ _ _ h _=>h) fun a u hS hr _=>?_
  have e0:a.tmps.getD 8 undef=(ab bs):=hr 3 _ 8 _ rfl rfl rfl ⟨⟨3,.data⟩,by simp,rfl,rfl⟩
  have hm:Array.map a.eval #[.tmp 8]= #[(ab bs)]:=by simp only [List.map_toArray,List.map_cons,List.map_nil,Act.eval,e0]
  rw [hm]
  refine(cn.out u).mono ?_
  rintro e u2 ⟨rfl,hk⟩
  exact⟨_,rfl,rfl,hk⟩
 ·refine Txt.a1w rfl b4r (fun _ _ _ h _=>h) fun a u hS hr _=>?_
  have e0:a.tmps.getD 5 undef=(nu dc):=hr 0 _ 5 _ rfl rfl rfl ⟨⟨0,.data⟩,by simp,rfl,rfl⟩
  have e1:a.tmps.getD 7 undef=b.v:=hr 2 _ 7 _ rfl rfl rfl ⟨⟨2,.data⟩,by simp,rfl,rfl⟩
  have e2:a.tmps.getD 9 undef=(ab n):=hr 4 _ 9 _ rfl rfl rfl ⟨⟨4,.data⟩,by simp,rfl,rfl⟩
  have hm:Array.map a.eval #[.tmp 5,.tmp 7,.tmp 9]= #[(nu dc),b.v,(ab n)]:=by simp only [List.map_toArray,List.map_cons,List.map_nil,Act.eval,e0,e1,e2]
  rw [hm]
  refine(cr.out u).mono ?_
  rintro e u2 ⟨rfl,hk⟩
  exact⟨_,rfl,rfl,hk⟩
 ·refine Txt.a1w rfl b0z (fun _ _ _ h _=>h) fun a u hS hr _=>?_
  have e0:a.tmps.getD 10 undef=r.v:=hr 5 _ 10 _ rfl rfl rfl ⟨⟨5,.data⟩,by simp,rfl,rfl⟩
  have hm:Array.map a.eval #[.tmp 10]= #[r.v]:=by simp only [List.map_toArray,List.map_cons,List.map_nil,Act.eval,e0]
  rw [hm]
  refine(ch.out u).mono ?_
  rintro e u2 ⟨rfl,hk⟩
  exact⟨_,rfl,rfl,hk⟩
 intro v wc kc hv
 have v0:v 0=(nu dc):=hv 0 _ rfl
 have v1:v 1=(nu dc):=hv 1 _ rfl
 have v2:v 2=b.v:=hv 2 _ rfl
 have v3:v 3=(ab bs):=hv 3 _ rfl
 have v4:v 4=(ab n):=hv 4 _ rfl
 have v5:v 5=r.v:=hv 5 _ rfl
 have v6:v 6=(ab E):=hv 6 _ rfl
 clear hv
 simp [Txt.a0w,List.range,List.range.loop,Act.put,v0,v1,v2,v3,v4,v5,v6]
 clear v0 v1 v2 v3 v4 v5 v6
 refine Txt.a7j a1u.row rfl rfl rfl (B4.out.kept kc (by simp)) (by rfl) (by simpa using hE.out) (a2a _) ?_
 intro wd b9 k9
 simp [Act.put]
 replace KK:=hjd ((KK.out.a0i kc).a0n k9 L4.out)
 clear B2 B3 B4 kc
 go_wp2_with fail
 exact a0y a1u.row rfl rfl b9 (by simpa using hE.out) rfl ⟨rfl,KK.out⟩
theorem c4b{dc:Nat→Int}(hD:Dq 70000 dc Ed.D)(bs:List UInt8)(hl:bs.length=32)(w:World):Calls Tryz.prog 11 #[nu dc,ab bs] w fun e w'=>e= .returned (ab (b3b (a7q bs)))∧Kept [] w w':=by
 obtain⟨b,r,cb,cr,ch⟩:=e1h hD (a5w bs)
 exact d2n hl (a5i _) cb (fun u=>c3w bs hl u) cr ch w
end Go.Proofs.YtdbngnlpafcogaaGreat
