/-
  The sign: parts put behind others, the number of a digest.
  The sign: a seed's secret.
-/
import Derived.Test.YtdbngnlpafcogaaGreatZcJ00
import Derived.Test.YtdbngnlpafcogaaGreatZcSq6
import Derived.Test.YtdbngnlpafcogaaGreatZcFe15
set_option maxRecDepth 100000
namespace Go.Proofs.YtdbngnlpafcogaaGreat
open Go.RowKit Go.Mem Go.Txt
theorem a4j:SliceT Tryz.prog 45 23 1 24 (.slice none 0 0):=⟨Tryz.underlying45,by kernel_rfl,rfl,by omega⟩
theorem one_sl(l:List (Value × List UInt8))(w:World)(h:∀x∈l,Rd w 1 x.1 x.2.length (bv x.2)):∀u∈l.map (·.1),u.oneCell'=true:=by
 intro u hu;obtain⟨x,hx,rfl⟩:=List.mem_map.1 hu;obtain⟨A,c,e,_⟩:=h x hx;rw [e];rfl
def c0x(m:List UInt8):Nat:=Z.leV (Q.sha m) % Z.LL
theorem c3x(pv:Value)(ps:List (Value × List UInt8))(w:World)(hp:Parts w pv ps)(hn:ps.length≤9223372036854775807)(hl:(a0z ps).length≤140737488353000) :
 Calls Tryz.prog 34 #[pv] w fun e w'=>e= .returned (Z.w4 (c0x (a0z ps)))∧Kept [] w w':=by
 have cs:=hjd (fun u (h:Parts u pv ps)=>Q.c4n pv ps u h hn hl);have cw:=hjd (Z.c7o (Q.sha (a0z ps)) (Q.b3g _));have P:=hjd hp;have hq:=hjd (show Z.leV (Q.sha (a0z ps)) % Z.LL=c0x (a0z ps)from rfl);generalize Q.sha (a0z ps)=s at *;clear hp;go_enter Tryz.func34,Tryz.ntmps34;go_wp2_with (first
  | ((with_reducible refine a0f 2 ?_);(refine a0h (o:=⟨some 2,_,_,_,_,_⟩) rfl rfl Z.a8s ?_);intro g2 w2 m2;have M2:=hjd m2;clear m2)
  | (go_at_call 88;(with_reducible refine(cs.out _ (P.out.a0k M2.out.kept)).mono ?_);rintro e w3 ⟨rfl,k3⟩;have K3:=hjd k3;clear k3)
  | (go_at_call 102;(with_reducible refine(cw.out _).mono ?_);rintro e w4 ⟨rfl,k4⟩;rw [hq.out];have K4:=hjd k4;clear k4)
  | ((with_reducible refine a6c (.tmp 2) (.tmp 5) ?_);refine a0a (o:=⟨none,Op.store 78 (.tmp 2) (.tmp 5),_,_,_,_⟩) Z.a1y rfl (.tmp 2) (.tmp 5) rfl rfl rfl ((M2.out.blk.kept K3.out (by simp)).kept K4.out (by simp)) rfl rfl (a2e _) ?_;intro w5 b5 k5;have B5:=hjd b5;have K5:=hjd k5;clear b5 k5))
 refine a1m Z.a1y rfl rfl B5.out rfl rfl ⟨rfl,?_⟩;exact((M2.out.kept.a0g K3.out).a0g K4.out).a0r K5.out M2.out.le
end Go.Proofs.YtdbngnlpafcogaaGreat
namespace Go.Proofs.YtdbngnlpafcogaaGreat
open Go.RowKit Go.Mem Go.Txt
theorem and248:∀n:_root_.Fin 256,bits .and .u8 (n.val:Int) 248=((n.val - n.val % 8:Nat):Int):=by decide +kernel
theorem or64:∀n:_root_.Fin 256,bits .or .u8 (bits .and .u8 (n.val:Int) 127) 64=((n.val % 64 + 64:Nat):Int):=by decide +kernel
def d0s(a:UInt8):UInt8:=UInt8.ofNat (a.toNat - a.toNat % 8)
def c4y(a:UInt8):UInt8:=UInt8.ofNat (a.toNat % 64 + 64)
theorem d2r(a:UInt8):bits .and .u8 (a.toNat:Int) 248=((d0s a).toNat:Int):=by
 have h:=UInt8.toNat_lt a;rw [and248 ⟨a.toNat,h⟩];unfold d0s;rw [UInt8.toNat_ofNat_of_lt' (by show a.toNat - a.toNat % 8 < 256;omega)]
theorem d3q(a:UInt8):bits .or .u8 (bits .and .u8 (a.toNat:Int) 127) 64=((c4y a).toNat:Int):=by
 have h:=UInt8.toNat_lt a;rw [or64 ⟨a.toNat,h⟩];unfold c4y;rw [UInt8.toNat_ofNat_of_lt' (by show a.toNat % 64 + 64 < 256;omega)]
def a3n(s:List UInt8):List UInt8:=((s.take 32).set 0 (d0s (s.getD 0 0))).set 31 (c4y (s.getD 31 0))
theorem b5j(s:List UInt8)(h:32≤s.length):(a3n s).length=32:=by simp [a3n,h]
theorem e1n{w:World}{g:Nat}{t:TypeId}{v:Value}{x:List UInt8}(hb:Blk w g t #[v])(hr:Rd w 1 v x.length (bv x)):Parts w (.slice (some ⟨g,0,none⟩) 1 1) [(v,x)]:=
 ⟨⟨_,_,rfl,rfl,Nat.le_refl _,fun _=>⟨g,0,rfl,fun j u hu=>by rw [hb.cell,Nat.zero_add];simpa using hu⟩⟩,fun y hy=>by obtain rfl:=List.mem_singleton.1 hy;exact hr⟩
theorem d8x(g:Nat)(W:World):(Instr.arrayAt 22 (.slice (some ⟨g,0,none⟩) 32 64)).run Tryz.prog W= .ok (.pointer (some ⟨g,0,none⟩)) W:=by kernel_rfl
theorem b7o(v:Value)(x:List UInt8):a0z [(v,x)]=x:=by simp [a0z,bytesOf]
theorem e7v{w:World}{g:Nat}{bt:TypeId}{s:List UInt8}(hb:Blk w g bt (bv s).toArray)(h:s.length=64):Rd w 1 (.slice (some ⟨g,32,none⟩) 32 32) 32 (bv (s.drop 32)):=
 ⟨_,_,rfl,by simp [h],Nat.le_refl _,fun _=>⟨g,32,rfl,fun j u hu=>by
  rw [hb.cell];rw [bv,List.map_drop,List.getElem?_drop]at hu;simpa [bv]using hu⟩⟩
theorem d4y{w:World}{g:Nat}{bt:TypeId}{s:List UInt8}(hb:Blk w g bt (bv s).toArray)(n:Nat):w.rangeAt g 0 (bv (s.take n)):=by
 refine Blk.range (bt:=bt) (pre:=[]) (post:=bv (s.drop n)) ?_ rfl;have e:([]:List Value) ++ (bv (s.take n) ++ bv (s.drop n))=bv s:=by
  rw [List.nil_append,bv,bv,←List.map_append,List.take_append_drop]
 rw [e];exact hb
theorem tk_at{w:World}{g n:Nat}{bt:TypeId}{s:List UInt8}(hb:Blk w g bt (bv (s.take n)).toArray){i:Nat}(h:i < s.length)(hn:i < n):w.cell? ⟨g,i,none⟩=some (.int .u8 ((s.getD i 0).toNat:Int)):=by
 rw [hb.cell];simp [bv,a1z,List.getD_eq_getElem?_getD,h,hn]
theorem d7n{w:World}{g:Nat}{bt:TypeId}{s:List UInt8}(hb:Blk w g bt (bv (s.take 32)).toArray):Blk ((w.setCell ⟨g,0,none⟩ (a1z (d0s (s.getD 0 0)))).setCell ⟨g,31,none⟩ (a1z (c4y (s.getD 31 0)))) g bt (bv (a3n s)).toArray:=by
 have:=(hb.b3i 0 (a1z (d0s (s.getD 0 0)))).b3i 31 (a1z (c4y (s.getD 31 0)));have e:((bv (s.take 32)).toArray.setIfInBounds 0 (a1z (d0s (s.getD 0 0)))).setIfInBounds 31 (a1z (c4y (s.getD 31 0)))=(bv (a3n s)).toArray:=by
  apply Array.toList_inj.1;rw [Array.toList_setIfInBounds,Array.toList_setIfInBounds];unfold a3n bv;rw [List.map_set,List.map_set]
 rw [e]at this;exact this
set_option maxHeartbeats 1600000 in
theorem b8a(bs:List UInt8)(hl:bs.length=32)(w:World) :
 Calls Tryz.prog 30 #[ab bs] w fun e w'=>∃g,e= .returned (.tuple #[ab (a3n (Q.sha bs)),.slice (some ⟨g,32,none⟩) 32 32])∧Rd w' 1 (.slice (some ⟨g,32,none⟩) 32 32) 32 (bv ((Q.sha bs).drop 32))∧Kept [] w w'∧w.heap.size≤g:=by
 have hs:=Q.b3g bs
 have cs:=hjd (fun(u:World) (pv v:Value) (h:Parts u pv [(v,bs)])=>(show Calls Tryz.prog 88 #[pv] u fun e w'=>e= .returned (ab (Q.sha bs))∧Kept [] u w' from by
  have:=Q.c4n pv [(v,bs)] u h (by simp) (by rw [b7o];omega)
  rwa [b7o]at this))
 have hcl:=b5j (Q.sha bs) (by omega);have hpost:∀(g:Nat) (w':World),Rd w' 1 (.slice (some ⟨g,32,none⟩) 32 32) 32 (bv ((Q.sha bs).drop 32))→Kept [] w w'→w.heap.size≤g→∃g',Ending.returned (.tuple #[ab (a3n (Q.sha bs)),.slice (some ⟨g,32,none⟩) 32 32])= .returned (.tuple #[ab (a3n (Q.sha bs)),.slice (some ⟨g',32,none⟩) 32 32])∧Rd w' 1 (.slice (some ⟨g',32,none⟩) 32 32) 32 (bv ((Q.sha bs).drop 32))∧Kept [] w w'∧w.heap.size≤g':=fun _ _ h1 h2 h3=>⟨_,rfl,h1,h2,h3⟩
 replace hpost:=hjd hpost;generalize Q.sha bs=s at *;have hl2:=hjd hl;have hs2:=hjd hs;clear hl hs;go_enter Tryz.func30,Tryz.ntmps30;go_wp2_with (first
  | ((with_reducible refine a0f 1 ?_);(refine a0q (o:=⟨some 1,_,_,_,_,_⟩) (v:=ab bs) rfl (.tmp 0) rfl rfl ?_);intro g1 w1 m1;have M1:=hjd m1;clear m1)
  | ((with_reducible refine a0f 2 ?_);(refine a0h (o:=⟨some 2,_,_,_,_,_⟩) rfl rfl a8l ?_);intro g2 w2 m2;have M2:=hjd m2;clear m2)
  | ((with_reducible refine a0f 7 ?_);(refine a1a (o:=⟨some 7,_,_,_,_,_⟩) (v0:=.slice (some ⟨g1,0,none⟩) 32 32) (cells:=#[.slice (some ⟨g1,0,none⟩) 32 32]) rfl a4j rfl rfl (by simp) rfl rfl ?_);intro g7 w7 m7;have P7:=hjd (e1n (x:=bs) m7.blk (by rw [hl2.out];exact Blk.rd ((M1.out.blk.kept M2.out.kept (by simp)).kept m7.kept (by simp)) (by simp [hl2.out]) (Nat.le_refl _)));have K7:=hjd ((M1.out.kept.a0g M2.out.kept).a0g m7.kept);have B2:=hjd (M2.out.blk.kept m7.kept (by simp));have L2:=hjd (Nat.le_trans M1.out.kept.size M2.out.le);clear m7 M1 M2)
  | (go_at_call 88;(with_reducible refine(cs.out _ _ _ P7.out).mono ?_);rintro e w8 ⟨rfl,k8⟩;replace B2:=hjd (B2.out.kept k8 (by simp));replace K7:=hjd (K7.out.a0g k8);clear k8 P7)
  | ((with_reducible refine a0f 4 ?_);(refine a0h (o:=⟨some 4,_,_,_,_,_⟩) rfl rfl Q.e0h ?_);intro g4 w4 m4;refine a0a (cs:=(bv s).toArray) (o:=⟨none,Op.store 32 (.tmp 4) (.tmp 8),_,_,_,_⟩) Q.b7e rfl (.tmp 4) (.tmp 8) rfl rfl rfl m4.blk (by rfl) (by simp [hs2.out]) (a3o _) ?_;intro wb b4 k4;have kk:=m4.kept.a0r k4 m4.le;have B4:=hjd b4;have L4:=hjd (Nat.le_trans K7.out.size m4.le);replace B2:=hjd (B2.out.kept kk (by simp));replace K7:=hjd (K7.out.a0g kk);have hat:=d8x g4;clear m4 b4 k4 kk)
  | ((with_reducible refine a0f 11 ?_);refine a1i (o:=⟨some 11,_,_,_,_,_⟩) (cs:=bv (s.take 32)) a2u.row rfl (.tmp 10) rfl rfl (d4y B4.out 32) (by simp [hs2.out]) ?_)
  | ((with_reducible refine a0f 5 ?_);(refine a0h (o:=⟨some 5,_,_,_,_,_⟩) rfl rfl a8l ?_);intro g5 w5 m5;refine a0a (cs:=(bv (s.take 32)).toArray) (o:=⟨none,Op.store 22 (.tmp 5) (.tmp 11),_,_,_,_⟩) a2u.row rfl (.tmp 5) (.tmp 11) rfl rfl rfl m5.blk (by rfl) (by simp [hs2.out]) (a3o _) ?_;intro wb5 b5 k5;have kk:=m5.kept.a0r k5 m5.le;have B5:=hjd b5;have q0:=tk_at b5 (i:=0) (by rw [hs2.out];decide) (by decide);have q31:=tk_at b5 (i:=31) (by rw [hs2.out];decide) (by decide);have f0:=b5.frozen 0;have f31:=b5.frozen 31;have v0:=d2r (s.getD 0 0);have v31:=d3q (s.getD 31 0);have L5:=hjd (Nat.le_trans K7.out.size m5.le);have n25:=hjd (show g2≠g5 from fun e=>by have:=B2.out.lt;have:=m5.le;omega);replace B4:=hjd (B4.out.kept kk (by simp));replace B2:=hjd (B2.out.kept kk (by simp));replace K7:=hjd (K7.out.a0g kk);clear m5 b5 k5 kk))
 clear q0 q31 f0 f31 v0 v31;have v0:bits .and .u8 ((s[0]?.getD 0).toNat:Int) 248=((d0s (s.getD 0 0)).toNat:Int):=by rw [←List.getD_eq_getElem?_getD];exact d2r _
 have v31:bits .or .u8 (bits .and .u8 ((s[31]?.getD 0).toNat:Int) 127) 64=((c4y (s.getD 31 0)).toNat:Int):=by rw [←List.getD_eq_getElem?_getD];exact d3q _
 rw [v0,v31];have B5':=hjd (d7n B5.out);have kk:=hjd (((Kept.refl [g5] wb5).setCell (p:=⟨g5,0,none⟩) (.inl (by simp)) (a1z (d0s (s.getD 0 0)))).setCell (p:=⟨g5,31,none⟩) (.inl (by simp)) (a1z (c4y (s.getD 31 0))));have n45:=hjd (show g4≠g5 from B4.out.ne_ B5.out (by decide));replace B2:=hjd (B2.out.kept kk.out (by simpa using n25.out));replace B4:=hjd (B4.out.kept kk.out (by simpa using n45.out));replace K7:=hjd (K7.out.a0r kk.out L5.out);replace hcl:=hjd hcl;clear kk B5 v0 v31;generalize d0s (s.getD 0 0)=V0 at *;generalize c4y (s.getD 31 0)=V31 at *;refine Txt.a1k [] (fun _=>True) _ (by kernel_rfl) (by kernel_rfl) rfl True.intro (Txt.a0e ?_);go_wp2_with (first
  | refine a0d (o:=⟨some 21,_,_,_,_,_⟩) a2u.row rfl (.tmp 5) rfl rfl B5'.out.drew (by simpa using hcl.out) ?_
  | ((refine a0a (cs:=(bv (a3n s)).toArray) (o:=⟨none,Op.store 22 (.tmp 2) (.tmp 21),_,_,_,_⟩) a2u.row rfl (.tmp 2) (.tmp 21) rfl rfl rfl B2.out.drew (by rfl) (by simpa using hcl.out) (a3o _) ?_);intro wz bz kz))
 refine⟨rfl,True.intro,Txt.a0e ?_⟩;go_wp2_with fail;refine⟨rfl,True.intro,Txt.a0w ⟨⟨by kernel_rfl,?_⟩,?_⟩⟩
 ·intro j hj;simp at hj
 have n24:=hjd (show g4≠g2 from B4.out.ne_ B2.out (by decide));have R4:=hjd (e7v (B4.out.kept kz.a1r (by simpa using n24.out)) hs2.out);have K9:=hjd (K7.out.a0r kz.a1r L2.out);clear kz n24 B5' B4 B2 K7 cs;go_wp2_with fail;exact a1j a2u.row rfl rfl bz (by simpa using hcl.out) rfl (hpost.out g4 _ R4.out K9.out L4.out)
end Go.Proofs.YtdbngnlpafcogaaGreat
