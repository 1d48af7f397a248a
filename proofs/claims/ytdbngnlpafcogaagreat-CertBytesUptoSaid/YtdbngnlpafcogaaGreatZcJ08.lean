/-
  Batches of updates: what the document reads from a tape (Read).
  Certificates as bytes: what the document reads from a tape (Read).
  Batches of updates: what the document reads bytes as (Parse); two batches compared (Same); the digest.
  Certificates as bytes: what the document reads bytes as (Parse).
  Certificates as bytes: two that are alike are the same (Same).
  The certificates' laws: certificates as bytes (CertBytes): the walk.
  The certificates' laws: certificates as bytes (CertBytes): the law; a certificate as it comes in.
-/
import Derived.Test.YtdbngnlpafcogaaGreatZcHb4
import Derived.Test.YtdbngnlpafcogaaGreatZcCb3
import Derived.Test.YtdbngnlpafcogaaGreatZcJ07
import Derived.Test.YtdbngnlpafcogaaGreatZcText
set_option maxRecDepth 100000
namespace Go.Proofs.YtdbngnlpafcogaaGreat
open Go.RowKit Go.Mem Go.Txt
theorem d9u{w:World}{base t:Nat}{s:St}(h:a4f w base t s):w.cell? ⟨t,2,none⟩=some (.int .i64 s.1):=by
 obtain⟨v,bs,k,hb,_⟩:=h;rw [hb.cell];rfl
end Go.Proofs.YtdbngnlpafcogaaGreat
namespace Go.Proofs.YtdbngnlpafcogaaGreat
open Go.RowKit Go.Mem Go.Txt
structure CT (w:World) (base t g2 g4:Nat) (s:St) (bd:List UInt8) (ns:List Int) (gs:List (List UInt8)) (bw c1 c2 sv gv:Value) (u:World):Prop where
 k:Kept [t] w u
 tp:a4f u base t s
 hb:base≤w.heap.size
 ht:t < w.heap.size
 b:Blk u g4 56 #[bw,c1,c2]
 fg:w.heap.size≤g4
 z:Blk u g2 56 #[.slice none 0 0,.slice none 0 0,.slice none 0 0]
 fz:w.heap.size≤g2
 nz:g2≠g4
 m:Rd u 1 bw bd.length (bv bd)
 mb:0 < bd.length→∀g,bw.ownBlock=some g→g < base
 s:Ow u 3 1 sv ns.length (iv ns)
 sf:∀k,sv.ownBlock=some k→w.heap.size≤k
 g:Ow u 32 64 gv gs.length (gs.flatMap bv)
 gf:∀k,gv.ownBlock=some k→w.heap.size≤k
section
variable {w u u2:World} {base t g2 g4:Nat} {s s':St} {bd:List UInt8} {ns ns':List Int} {gs gs':List (List UInt8)} {bw c1 c2 d1 d2 sv gv x:Value}
theorem CT.a0k(h:CT w base t g2 g4 s bd ns gs bw c1 c2 sv gv u)(hk:Kept [] u u2):CT w base t g2 g4 s bd ns gs bw c1 c2 sv gv u2:=
 ⟨h.k.a0g hk,h.tp.a0k hk,h.hb,h.ht,h.b.kept hk (by simp),h.fg,h.z.kept hk (by simp),h.fz,h.nz,h.m.a0k hk,h.mb,h.s.a0k hk,h.sf,h.g.a0k hk,h.gf⟩
theorem CT.tape(h:CT w base t g2 g4 s bd ns gs bw c1 c2 sv gv u)(hr:a4f u2 base t s')(hk:Kept [t] u u2):CT w base t g2 g4 s' bd ns gs bw c1 c2 sv gv u2:=by
 have ht:=h.ht;have hbt:=hr.c3z
 exact⟨h.k.trans' hk,hr,h.hb,h.ht,h.b.kept hk (by have:=h.fg;simp;omega),h.fg,h.z.kept hk (by have:=h.fz;simp;omega),h.fz,h.nz,h.m.kept hk (fun hn k e hm=>by have:=h.mb hn k e;have:=List.mem_singleton.1 hm;omega),h.mb,
  h.s.kept hk (fun k e hm=>by have:=h.sf k e;have:=List.mem_singleton.1 hm;omega),h.sf,h.g.kept hk (fun k e hm=>by have:=h.gf k e;have:=List.mem_singleton.1 hm;omega),h.gf⟩
theorem CT.c2d(h:CT w base t g2 g4 s bd ns gs bw c1 c2 sv gv u)(ho:Ow u2 3 1 x ns'.length (iv ns'))(hk:Kept sv.ownBlock.toList u u2)(hn:x.ownBlock=sv.ownBlock∨x.ownBlock=some u.heap.size):CT w base t g2 g4 s bd ns' gs bw c1 c2 x gv u2:=by
 have hb:=h.hb;have ht:=h.ht;have far:∀k∈sv.ownBlock.toList,w.heap.size≤k:=fun k hk=>h.sf k (Option.mem_toList.1 hk)
 exact⟨h.k.trans hk (fun _ _ h=>h) (fun k hlt hk=>absurd (far k hk) (by omega)),h.tp.kept hk (fun hm=>by have:=far _ hm;omega) (fun k hm=>by have:=far _ hm;omega),h.hb,h.ht,h.b.kept hk (fun hm=>h.s.a2r h.b (by decide) (Option.mem_toList.1 hm)),h.fg,h.z.kept hk (fun hm=>h.s.a2r h.z (by decide) (Option.mem_toList.1 hm)),h.fz,h.nz,
  h.m.kept hk (fun hn k e hm=>by have:=h.mb hn k e;have:=far k hm;omega),h.mb,ho,b4r h.sf h.k.size (d9h hn),h.g.kept hk (fun k e hm=>h.g.ne_ h.s (by decide) k e (Option.mem_toList.1 hm)),h.gf⟩
theorem CT.d7w(h:CT w base t g2 g4 s bd ns gs bw c1 c2 sv gv u)(ho:Ow u2 32 64 x gs'.length (gs'.flatMap bv))(hk:Kept gv.ownBlock.toList u u2)(hn:x.ownBlock=gv.ownBlock∨x.ownBlock=some u.heap.size):CT w base t g2 g4 s bd ns gs' bw c1 c2 sv x u2:=by
 have hb:=h.hb;have ht:=h.ht;have far:∀k∈gv.ownBlock.toList,w.heap.size≤k:=fun k hk=>h.gf k (Option.mem_toList.1 hk)
 exact⟨h.k.trans hk (fun _ _ h=>h) (fun k hlt hk=>absurd (far k hk) (by omega)),h.tp.kept hk (fun hm=>by have:=far _ hm;omega) (fun k hm=>by have:=far _ hm;omega),h.hb,h.ht,h.b.kept hk (fun hm=>h.g.a2r h.b (by decide) (Option.mem_toList.1 hm)),h.fg,h.z.kept hk (fun hm=>h.g.a2r h.z (by decide) (Option.mem_toList.1 hm)),h.fz,h.nz,
  h.m.kept hk (fun hn k e hm=>by have:=h.mb hn k e;have:=far k hm;omega),h.mb,h.s.kept hk (fun k e hm=>h.s.ne_ h.g (by decide) k e (Option.mem_toList.1 hm)),h.sf,ho,b4r h.gf h.k.size (d9h hn)⟩
theorem CT.st(h:CT w base t g2 g4 s bd ns gs bw c1 c2 sv gv u)(hb2:Blk u2 g4 56 #[bw,d1,d2])(hk:Kept [g4] u u2):CT w base t g2 g4 s bd ns gs bw d1 d2 sv gv u2:=by
 have hb:=h.hb;have ht:=h.ht;have fg:=h.fg;have on:∀{e:TypeId} {z n:Nat} {y:Value} {xs:List Value},Ow u e z y n xs→e≠56→∀k,y.ownBlock=some k→k∉[g4]:=fun ho he k e hm=>ho.a2r h.b he (by rw [e,List.mem_singleton.1 hm])
 exact⟨h.k.trans hk (fun _ _ h=>h) (fun k hlt hm=>absurd (List.mem_singleton.1 hm) (by omega)),h.tp.kept hk (by simp;omega) (fun k hm=>by have:=List.mem_singleton.1 hm;omega),h.hb,h.ht,hb2,h.fg,h.z.kept hk (by simpa using h.nz),h.fz,h.nz,
  h.m.kept hk (fun hn k e hm=>by have:=h.mb hn k e;have:=List.mem_singleton.1 hm;omega),h.mb,h.s.kept hk (on h.s (by decide)),h.sf,h.g.kept hk (on h.g (by decide)),h.gf⟩
end
theorem d3u(base t:Nat)(s:St)(w:World)(h:a4f w base t s) :
 Calls Tryz.prog 149 #[.pointer (some ⟨t,0,none⟩)] w fun e w'=>∃x,e= .returned x∧Rd w' 1 x (a2a s).1.length (bv (a2a s).1)∧(0 < (a2a s).1.length→∀g,x.ownBlock=some g→g < base)∧a4f w' base t (a2a s).2∧Kept [t] w w':=by
 have H:=hjd (c2r base t 1048576 s w h (by omega));have hle:=a9k 1048576 s;clear h;unfold a2a;generalize (a4l 1048576 s)=p at *;obtain⟨n,s2⟩:=p
 dsimp only at H hle ⊢
 go_enter Tryz.func149,Tryz.ntmps149;go_wp2_with (first
  | (go_at_call 139;refine H.out.mono ?_;rintro e w1 ⟨rfl,hr,hk⟩;have hr2:=hjd hr;have hk2:=hjd hk;clear hr hk)
  | (go_at_call 168;refine(b2e base t n s2 _ hr2.out (by omega)).mono ?_;rintro e w2 ⟨x,rfl,hx,hf,hr,hk⟩;have hx3:=hjd hx;have hf3:=hjd hf;have hr3:=hjd hr;have hk3:=hjd (hk2.out.trans' hk);clear hr hk hx hf))
 go_ret;exact⟨_,rfl,hx3.out,hf3.out,hr3.out,hk3.out⟩
set_option maxHeartbeats 6400000 in
theorem d1b{base t:Nat}{s1:St}(w:World)(h:a4f w base t s1)(hbase:base≤w.heap.size)(hok:okS s1) :
 Calls Tryz.prog 83 #[.pointer (some ⟨t,0,none⟩)] w fun e w'=>∃b2 s2 g2,e= .returned (.tuple #[.agg #[b2,s2,g2],.bool (a2p s1).2.1])∧a1o (a2p s1).1.bd b2 w'∧(0 < (a2p s1).1.bd.length→∀g,b2.ownBlock=some g→g < base)∧Ow w' 3 1 s2 (a2p s1).1.ns.length (iv (a2p s1).1.ns)∧Ow w' 32 64 g2 (a2p s1).1.gs.length ((a2p s1).1.gs.flatMap bv)∧a4f w' base t (a2p s1).2.2∧Kept [t] w w':=by
 have HR:=hjd (show a2p s1=(⟨(a2a s1).1,(a2n (a4l 65536 (a2a s1).2).1 (a4l 65536 (a2a s1).2).2).1.map (·.1),(a2n (a4l 65536 (a2a s1).2).1 (a4l 65536 (a2a s1).2).2).1.map (·.2)⟩,(a2n (a4l 65536 (a2a s1).2).1 (a4l 65536 (a2a s1).2).2).2.1,(a2n (a4l 65536 (a2a s1).2).1 (a4l 65536 (a2a s1).2).2).2.2)from rfl);have HO1:=hjd (show okS (a2a s1).2 from b1w (b2y (m:=1048576) hok));have HT:=hjd h;have cx:=hjd (fun u (h:a4f u base t s1)=>d3u base t s1 u h);replace hbase:=hjd hbase;clear h hok;generalize a2p s1=RC at *;go_enter Tryz.func83,Tryz.ntmps83;go_upto_region 3 with(first
  | ((with_reducible refine a0f 2 ?_);(refine a0h (o:=⟨some 2,_,_,_,_,_⟩) rfl rfl a2v ?_);intro g2 w2 m2;have Z:=hjd (show Blk w2 g2 56 #[.slice none 0 0,.slice none 0 0,.slice none 0 0]from m2.blk);have LZ:=hjd m2.le;have K:=hjd m2.kept;clear m2)
  | ((with_reducible refine a0f 4 ?_);(refine a0h (o:=⟨some 4,_,_,_,_,_⟩) rfl rfl a2v ?_);intro g4 w4 m4;have B:=hjd (show Blk w4 g4 56 #[.slice none 0 0,.slice none 0 0,.slice none 0 0]from m4.blk)
     have C:=hjd (show CT w base t g2 g4 s1 [] [] [] (.slice none 0 0) (.slice none 0 0) (.slice none 0 0) (.slice none 0 0) (.slice none 0 0) w4 from
      ⟨(K.out.a0g m4.kept).of0,(HT.out.a0k K.out).a0k m4.kept,hbase.out,HT.out.lt,B.out,Nat.le_trans K.out.size m4.le,Z.out.kept m4.kept (by simp),LZ.out,by have:=Z.out.lt;have:=m4.le;omega,Rd.nil _ _,(fun h=>absurd h (by simp)),Ow.nil _ _ _,(fun k h=>by cases h),Ow.nil _ _ _,(fun k h=>by cases h)⟩)
     clear m4 B Z K)
  | (go_at_call 149;(with_reducible refine(cx.out _ C.out.tp).mono ?_);rintro e v10 ⟨x10,rfl,h10,f10,t10,k10⟩;have M:=hjd h10;have MF:=hjd f10;have oneM:=hjd (show x10.oneCell'=true from by obtain⟨A,c,rfl,_⟩:=h10;rfl);replace C:=hjd (C.out.tape t10 k10);clear h10 f10 t10 k10)
  | ((with_reducible refine a6c (.tmp 11) (.tmp 10) ?_);refine b0i (o':=⟨none,Op.store 23 (.tmp 11) (.tmp 10),_,_,_,_⟩) rfl (.tmp 11) (.tmp 10) rfl rfl rfl oneM.out (by kernel_rfl) C.out.b (by show 0 < 3;decide) ?_;intro ws b6 k6;have hfg:=C.out.fg;have hfb:=C.out.hb;have hft:=C.out.ht
     replace C:=hjd (show CT w base t g2 g4 (a2a s1).2 (a2a s1).1 [] [] x10 (.slice none 0 0) (.slice none 0 0) (.slice none 0 0) (.slice none 0 0) ws from
      ⟨C.out.k.trans k6 (fun _ _ h=>h) (fun k hlt hm=>absurd (List.mem_singleton.1 hm) (by omega)),C.out.tp.kept k6 (by simp;omega) (fun k hm=>by have:=List.mem_singleton.1 hm;omega),C.out.hb,C.out.ht,b6,C.out.fg,C.out.z.kept k6 (by simpa using C.out.nz),C.out.fz,C.out.nz,M.out.kept k6 (fun hn k e hm=>by have:=MF.out hn k e;have:=List.mem_singleton.1 hm;omega),MF.out,Ow.nil _ _ _,(fun k h=>by cases h),Ow.nil _ _ _,(fun k h=>by cases h)⟩)
     clear b6 k6 hfg hfb hft M MF oneM))
 generalize (a2a s1).1=bd at *;generalize (a2a s1).2=sN at *;have HO:=hjd (b2y (m:=65536) HO1.out);have HN:=hjd (a9k 65536 sN);have HL:=hjd (Nat.le_trans (b1q (a4l 65536 sN).1 (a4l 65536 sN).2) (a9k 65536 _));have cu:=hjd (fun u (h:a4f u base t sN)=>(show Calls Tryz.prog 139 #[.pointer (some ⟨t,0,none⟩),.int .u64 65536] u fun e w'=>e= .returned (.int .i64 (a4l 65536 sN).1)∧a4f w' base t (a4l 65536 sN).2∧Kept [t] u w' from c2r base t 65536 sN u h (by omega)));go_wp2_with (first
  | (go_at_call 139;(with_reducible refine(cu.out _ C.out.tp).mono ?_);rintro e v13 ⟨rfl,h13,k13⟩;replace C:=hjd (C.out.tape h13 k13);clear h13 k13))
 generalize (a4l 65536 sN).1=N at *;generalize (a4l 65536 sN).2=s0 at *;generalize hPA:a2n N s0=PA at *;replace hPA:=hjd hPA;go_loopg [6,7] N (fun f x6 x7 wk=>∃(s:St) (acc:List Shr) (fm:Bool) (sv gv:Value),f≤N∧x7= .int .i64 ((N - f:Nat):Int)∧x6= .bool fm∧Hid (okS s)∧Hid (CT w base t g2 g4 s bd (acc.map (·.1)) (acc.map (·.2)) x10 sv gv sv gv wk)∧Hid (PA=(acc ++ (a2n f s).1,fm || (a2n f s).2.1,(a2n f s).2.2)));case atStart=>exact⟨s0,[],false,_,_,Nat.le_refl _,by simp,rfl,HO,C,hjd (by rw [←hPA.out];simp)⟩
 case round=>
  obtain⟨s,acc,fm,sv,gv,hfb,rfl,rfl,hO,hC,hE⟩:=hrel;clear HO C;obtain⟨SV,sc1,rfl,e1⟩:=hC.out.s.shape;obtain⟨GV,gc1,rfl,e2⟩:=hC.out.g.shape;clear e1 e2;have hMs:=hC.out.m;obtain⟨MA,mc,hx10,_⟩:=hMs;have qb:=d9u hC.out.tp;have hN:=HN.out;by_cases hz:gk=0
  ·subst hz;have hlt:¬(((N - 0:Nat):Int) < (N:Int)):=by omega
   have e:=hjd (show RC=(⟨bd,acc.map (·.1),acc.map (·.2)⟩,fm,s)from by rw [HR.out,hE.out];simp [a2n]);replace hx10:=hjd hx10;generalize acc.map (·.1)=ns at *;generalize acc.map (·.2)=gs at *;go_wp2_with (first
    | ((with_reducible refine a0f 47 ?_);refine a0d (cs:=#[x10,.slice SV ns.length sc1,.slice GV gs.length gc1]) (o:=⟨some 47,_,_,_,_,_⟩) a2i (by kernel_rfl) (.tmp 4) rfl rfl hC.out.b rfl ?_)
    | (refine a0a (cs:=#[x10,.slice SV ns.length sc1,.slice GV gs.length gc1]) (o:=⟨none,Op.store 56 (.tmp 2) (.tmp 47),_,_,_,_⟩) a2i rfl (.tmp 2) (.tmp 47) rfl rfl rfl hC.out.z rfl rfl (by rw [hx10.out];exact a1v _ _ _ _ _ _ _ _ _) ?_;intro wz bz kz))
   rw [e.out];have on:∀{e:TypeId} {z n:Nat} {y:Value} {xs:List Value},Ow _ e z y n xs→e≠56→∀k,y.ownBlock=some k→k∉[g2]:=fun ho he k e hm=>ho.a2r hC.out.z he (by rw [e,List.mem_singleton.1 hm])
   have hfz:=hC.out.fz;have hfb2:=hC.out.hb;have hft:=hC.out.ht;exact a1j a2i rfl rfl bz rfl rfl ⟨_,_,_,rfl,hC.out.m.kept kz (fun hn k e hm=>by have:=hC.out.mb hn k e;have:=List.mem_singleton.1 hm;omega),hC.out.mb,hC.out.s.kept kz (on hC.out.s (by decide)),hC.out.g.kept kz (on hC.out.g (by decide)),hC.out.tp.kept kz (by simp;omega) (fun k hm=>by have:=List.mem_singleton.1 hm;omega),hC.out.k.trans kz (fun _ _ h=>h) (fun k hlt hm=>absurd (List.mem_singleton.1 hm) (by omega))⟩
  ·obtain⟨m,rfl⟩:∃m,gk=m + 1:=⟨gk - 1,by omega⟩;have hlt:(((N - (m + 1):Nat):Int) < (N:Int)):=by omega
   have hnx:((N - (m + 1):Nat):Int) + 1=((N - m:Nat):Int):=by omega
   by_cases h0:s.1=0
   ·have hE2:=hjd (show PA=(acc ++ (a2n (m + 1) s).1,fm || (a2n (m + 1) s).2.1,(a2n (m + 1) s).2.2)from hE.out);rw [a7m h0]at hE2;rw [h0]at qb;have OB:=hjd (b5z hO.out);have cB:=hjd (fun W (h:a4f W base t s)=>c7c base t s W h);have lB:=b6j s;generalize a9r s=Bn at *;have OD:=hjd (c0l (n:=64) OB.out);have LD:=hjd (a6x 64 Bn.2);have cD:=hjd (fun W (h:a4f W base t Bn.2)=>d8z base t Bn.2 W h);generalize a8q 64 Bn.2=D at *;clear hO hE;replace h0:=hjd h0;replace hx10:=hjd hx10
    have hal:=hjd (show acc.length≤65536 from by
     have:=HL.out;rw [hE2.out]at this;simp at this;omega)
    have hal1:=hjd (show(acc.map (·.1)).length≤65536 from by rw [List.length_map];exact hal.out);have hal2:=hjd (show(acc.map (·.2)).length≤65536 from by rw [List.length_map];exact hal.out);generalize hns:acc.map (·.1)=ns at *;generalize hgs:acc.map (·.2)=gs at *;replace hns:=hjd hns;replace hgs:=hjd hgs
    cases fm with
    | true=>
      go_upto_region 11 with(first
       | (go_at_call 141;(with_reducible refine(cB.out _ hC.out.tp).mono ?_);rintro e v27 ⟨rfl,h27,k27⟩;replace hC:=hjd (hC.out.tape h27 k27);clear h27 k27)
       | ((with_reducible refine a0f 34 ?_);refine a0p (v:=.slice SV ns.length sc1) (by kernel_rfl) (a1d rfl (fun w=>by kernel_rfl) rfl (hC.out.b.cell 1)) ?_)
       | ((with_reducible refine a0f 37 ?_);(refine a1a (o:=⟨some 37,_,_,_,_,_⟩) (v0:=.int .i64 (wrap64 (Bn.1:Int))) (cells:=#[.int .i64 (wrap64 (Bn.1:Int))]) rfl a4d rfl rfl (by decide) rfl rfl ?_);intro gm wm mm;have Rm:=hjd (a4x (cells:=[.int .i64 (wrap64 (Bn.1:Int))]) mm.blk rfl);replace hC:=hjd (hC.out.a0k mm.kept);clear mm)
       | (at_builtin;refine a1q a4d rfl (.tmp 34) (.tmp 37) rfl rfl (xs:=iv ns) (n:=ns.length) (m:=1) (news:=[.int .i64 (wrap64 (Bn.1:Int))]) hC.out.s rfl Rm.out (by intro u hu;rw [List.mem_singleton.1 hu];rfl) (by have:=hal1.out;omega) (by have:=hal1.out;omega) ?_;intro x4 w4 o4 k4 b4;have o4':Ow w4 3 1 x4 (ns ++ [(wrap64 (Bn.1:Int))]).length (iv (ns ++ [(wrap64 (Bn.1:Int))])):=by simpa [iv]using o4
          have one4:=hjd (a4w o4);replace hC:=hjd (hC.out.c2d o4' k4 b4);clear o4 o4' k4 b4 Rm)
       | ((with_reducible refine a6c (.tmp 39) (.tmp 38) ?_);refine b0i (o':=⟨none,Op.store 53 (.tmp 39) (.tmp 38),_,_,_,_⟩) rfl (.tmp 39) (.tmp 38) rfl rfl rfl one4.out (by kernel_rfl) hC.out.b (by show 1 < 3;decide) ?_;intro ws5 b6 k6;replace hC:=hjd (hC.out.st (d1:=x4) (d2:=.slice GV gs.length gc1) b6 k6);clear b6 k6))
      replace hC:=hjd (hC.out.a0k (Kept.refl [] _).drew);clear qb;refine Txt.a6k [1] (fun u=>Blk u g4 56 #[x10,x4,.slice GV gs.length gc1]) [_,_,_,_,_,_,_] [_] rfl [[_,_,_,_],[_],[_],[_]] (by kernel_rfl) (by kernel_rfl) (by kernel_rfl) (by kernel_rfl) (by kernel_rfl) (by decide) rfl hC.out.b (Txt.a0e ?_);go_wp2_with (first
       | ((with_reducible refine a0f 41 ?_);refine a0p (v:=.slice GV gs.length gc1) (by kernel_rfl) (a1d rfl (fun w=>by kernel_rfl) rfl (hC.out.b.cell 2)) ?_)
       | (go_at_call 142;(with_reducible refine(cD.out _ hC.out.tp).mono ?_);rintro e v43 ⟨rfl,h43,k43⟩;replace hC:=hjd (hC.out.tape h43 k43);clear h43 k43))
      refine⟨rfl,hC.out.b,Txt.a0e ?_⟩;go_wp2_with (first
       | ((with_reducible refine a0f 44 ?_);(refine a1a (o:=⟨some 44,_,_,_,_,_⟩) (v0:=ab D.1) (cells:=(bv D.1).toArray) rfl a4c rfl rfl (by decide) rfl (by simpa using LD.out) ?_);intro gm wm mm;have Rm:=hjd (a4x (cells:=bv D.1) mm.blk (by simpa using LD.out));replace hC:=hjd (hC.out.a0k mm.kept);clear mm))
      refine⟨rfl,hC.out.b,Txt.a0e ?_⟩;go_wp2_with (first
       | (at_builtin;refine a1q a4c rfl (.tmp 41) (.tmp 44) rfl rfl (xs:=gs.flatMap bv) (n:=gs.length) (m:=1) (news:=bv D.1) hC.out.g rfl Rm.out (a2x _) (by have:=hal2.out;omega) (by have:=hal2.out;omega) ?_;intro x5 w5 o5 k5 b5;have o5':Ow w5 32 64 x5 (gs ++ [D.1]).length ((gs ++ [D.1]).flatMap bv):=by simpa using o5
          have one5:=hjd (a4w o5);replace hC:=hjd (hC.out.d7w o5' k5 b5);clear o5 o5' k5 b5 Rm))
      refine⟨rfl,hC.out.b,Txt.a0e ?_⟩;go_wp2_with fail;refine⟨rfl,hC.out.b,Txt.a0w ⟨⟨by kernel_rfl,?_⟩,?_⟩⟩
      ·intro j hj o ho hw;obtain rfl:j=1:=by simpa using hj
       cases ho
       exact⟨41,rfl,fun u hu=>a1d rfl (fun w=>by kernel_rfl) rfl (hu.cell 2)⟩
      unfold Txt.a2t;refine a2l (.tmp 46) (.tmp 45) rfl rfl rfl one5.out (by kernel_rfl) hC.out.b (by show 2 < 3;decide) ?_;intro wt b7 k7;replace hC:=hjd (hC.out.st (d1:=x4) (d2:=x5) b7 k7);clear b7 k7;unfold Txt.a2t;simp [Act.put];go_wp2_with fail;go_roundg m;case measure=>omega
      case rel=>exact⟨D.2,acc ++ [((wrap64 (Bn.1:Int)),D.1)],true,_,_,by omega,by go_num,rfl,OD,hjd (by rw [a5a,a5b,hns.out,hgs.out];exact hC.out),hjd (by rw [hE2.out];simp [])⟩
    | false=>
      by_cases hgt:(65536:Int) < (Bn.1:Int)
      ·have hg2:=hjd (show 65536 < Bn.1 from by omega);go_upto_region 11 with(first
        | (go_at_call 141;(with_reducible refine(cB.out _ hC.out.tp).mono ?_);rintro e v27 ⟨rfl,h27,k27⟩;replace hC:=hjd (hC.out.tape h27 k27);clear h27 k27)
        | ((with_reducible refine a0f 34 ?_);refine a0p (v:=.slice SV ns.length sc1) (by kernel_rfl) (a1d rfl (fun w=>by kernel_rfl) rfl (hC.out.b.cell 1)) ?_)
        | ((with_reducible refine a0f 37 ?_);(refine a1a (o:=⟨some 37,_,_,_,_,_⟩) (v0:=.int .i64 (wrap64 (Bn.1:Int))) (cells:=#[.int .i64 (wrap64 (Bn.1:Int))]) rfl a4d rfl rfl (by decide) rfl rfl ?_);intro gm wm mm;have Rm:=hjd (a4x (cells:=[.int .i64 (wrap64 (Bn.1:Int))]) mm.blk rfl);replace hC:=hjd (hC.out.a0k mm.kept);clear mm)
        | (at_builtin;refine a1q a4d rfl (.tmp 34) (.tmp 37) rfl rfl (xs:=iv ns) (n:=ns.length) (m:=1) (news:=[.int .i64 (wrap64 (Bn.1:Int))]) hC.out.s rfl Rm.out (by intro u hu;rw [List.mem_singleton.1 hu];rfl) (by have:=hal1.out;omega) (by have:=hal1.out;omega) ?_;intro x4 w4 o4 k4 b4;have o4':Ow w4 3 1 x4 (ns ++ [(wrap64 (Bn.1:Int))]).length (iv (ns ++ [(wrap64 (Bn.1:Int))])):=by simpa [iv]using o4
           have one4:=hjd (a4w o4);replace hC:=hjd (hC.out.c2d o4' k4 b4);clear o4 o4' k4 b4 Rm)
        | ((with_reducible refine a6c (.tmp 39) (.tmp 38) ?_);refine b0i (o':=⟨none,Op.store 53 (.tmp 39) (.tmp 38),_,_,_,_⟩) rfl (.tmp 39) (.tmp 38) rfl rfl rfl one4.out (by kernel_rfl) hC.out.b (by show 1 < 3;decide) ?_;intro ws5 b6 k6;replace hC:=hjd (hC.out.st (d1:=x4) (d2:=.slice GV gs.length gc1) b6 k6);clear b6 k6))
       replace hC:=hjd (hC.out.a0k (Kept.refl [] _).drew);clear qb;refine Txt.a6k [1] (fun u=>Blk u g4 56 #[x10,x4,.slice GV gs.length gc1]) [_,_,_,_,_,_,_] [_] rfl [[_,_,_,_],[_],[_],[_]] (by kernel_rfl) (by kernel_rfl) (by kernel_rfl) (by kernel_rfl) (by kernel_rfl) (by decide) rfl hC.out.b (Txt.a0e ?_);go_wp2_with (first
        | ((with_reducible refine a0f 41 ?_);refine a0p (v:=.slice GV gs.length gc1) (by kernel_rfl) (a1d rfl (fun w=>by kernel_rfl) rfl (hC.out.b.cell 2)) ?_)
        | (go_at_call 142;(with_reducible refine(cD.out _ hC.out.tp).mono ?_);rintro e v43 ⟨rfl,h43,k43⟩;replace hC:=hjd (hC.out.tape h43 k43);clear h43 k43))
       refine⟨rfl,hC.out.b,Txt.a0e ?_⟩;go_wp2_with (first
        | ((with_reducible refine a0f 44 ?_);(refine a1a (o:=⟨some 44,_,_,_,_,_⟩) (v0:=ab D.1) (cells:=(bv D.1).toArray) rfl a4c rfl rfl (by decide) rfl (by simpa using LD.out) ?_);intro gm wm mm;have Rm:=hjd (a4x (cells:=bv D.1) mm.blk (by simpa using LD.out));replace hC:=hjd (hC.out.a0k mm.kept);clear mm))
       refine⟨rfl,hC.out.b,Txt.a0e ?_⟩;go_wp2_with (first
        | (at_builtin;refine a1q a4c rfl (.tmp 41) (.tmp 44) rfl rfl (xs:=gs.flatMap bv) (n:=gs.length) (m:=1) (news:=bv D.1) hC.out.g rfl Rm.out (a2x _) (by have:=hal2.out;omega) (by have:=hal2.out;omega) ?_;intro x5 w5 o5 k5 b5;have o5':Ow w5 32 64 x5 (gs ++ [D.1]).length ((gs ++ [D.1]).flatMap bv):=by simpa using o5
           have one5:=hjd (a4w o5);replace hC:=hjd (hC.out.d7w o5' k5 b5);clear o5 o5' k5 b5 Rm))
       refine⟨rfl,hC.out.b,Txt.a0e ?_⟩;go_wp2_with fail;refine⟨rfl,hC.out.b,Txt.a0w ⟨⟨by kernel_rfl,?_⟩,?_⟩⟩
       ·intro j hj o ho hw;obtain rfl:j=1:=by simpa using hj
        cases ho
        exact⟨41,rfl,fun u hu=>a1d rfl (fun w=>by kernel_rfl) rfl (hu.cell 2)⟩
       unfold Txt.a2t;refine a2l (.tmp 46) (.tmp 45) rfl rfl rfl one5.out (by kernel_rfl) hC.out.b (by show 2 < 3;decide) ?_;intro wt b7 k7;replace hC:=hjd (hC.out.st (d1:=x4) (d2:=x5) b7 k7);clear b7 k7;unfold Txt.a2t;simp [Act.put];go_wp2_with fail;go_roundg m;case measure=>omega
       case rel=>exact⟨D.2,acc ++ [((wrap64 (Bn.1:Int)),D.1)],true,_,_,by omega,by go_num,rfl,OD,hjd (by rw [a5a,a5b,hns.out,hgs.out];exact hC.out),hjd (by rw [hE2.out];simp [hg2.out])⟩
      ·have hg2:=hjd (show ¬(65536 < Bn.1)from by omega);have hwr:wrap64 (Bn.1:Int)=(Bn.1:Int):=IntWalk.wrap64_in _ (by omega);rw [hwr]at hE2;clear hwr;go_upto_region 11 with(first
        | (go_at_call 141;(with_reducible refine(cB.out _ hC.out.tp).mono ?_);rintro e v27 ⟨rfl,h27,k27⟩;replace hC:=hjd (hC.out.tape h27 k27);clear h27 k27)
        | ((with_reducible refine a0f 34 ?_);refine a0p (v:=.slice SV ns.length sc1) (by kernel_rfl) (a1d rfl (fun w=>by kernel_rfl) rfl (hC.out.b.cell 1)) ?_)
        | ((with_reducible refine a0f 37 ?_);(refine a1a (o:=⟨some 37,_,_,_,_,_⟩) (v0:=.int .i64 (Bn.1:Int)) (cells:=#[.int .i64 (Bn.1:Int)]) rfl a4d rfl rfl (by decide) rfl rfl ?_);intro gm wm mm;have Rm:=hjd (a4x (cells:=[.int .i64 (Bn.1:Int)]) mm.blk rfl);replace hC:=hjd (hC.out.a0k mm.kept);clear mm)
        | (at_builtin;refine a1q a4d rfl (.tmp 34) (.tmp 37) rfl rfl (xs:=iv ns) (n:=ns.length) (m:=1) (news:=[.int .i64 (Bn.1:Int)]) hC.out.s rfl Rm.out (by intro u hu;rw [List.mem_singleton.1 hu];rfl) (by have:=hal1.out;omega) (by have:=hal1.out;omega) ?_;intro x4 w4 o4 k4 b4;have o4':Ow w4 3 1 x4 (ns ++ [(Bn.1:Int)]).length (iv (ns ++ [(Bn.1:Int)])):=by simpa [iv]using o4
           have one4:=hjd (a4w o4);replace hC:=hjd (hC.out.c2d o4' k4 b4);clear o4 o4' k4 b4 Rm)
        | ((with_reducible refine a6c (.tmp 39) (.tmp 38) ?_);refine b0i (o':=⟨none,Op.store 53 (.tmp 39) (.tmp 38),_,_,_,_⟩) rfl (.tmp 39) (.tmp 38) rfl rfl rfl one4.out (by kernel_rfl) hC.out.b (by show 1 < 3;decide) ?_;intro ws5 b6 k6;replace hC:=hjd (hC.out.st (d1:=x4) (d2:=.slice GV gs.length gc1) b6 k6);clear b6 k6))
       replace hC:=hjd (hC.out.a0k (Kept.refl [] _).drew);clear qb;refine Txt.a6k [1] (fun u=>Blk u g4 56 #[x10,x4,.slice GV gs.length gc1]) [_,_,_,_,_,_,_] [_] rfl [[_,_,_,_],[_],[_],[_]] (by kernel_rfl) (by kernel_rfl) (by kernel_rfl) (by kernel_rfl) (by kernel_rfl) (by decide) rfl hC.out.b (Txt.a0e ?_);go_wp2_with (first
        | ((with_reducible refine a0f 41 ?_);refine a0p (v:=.slice GV gs.length gc1) (by kernel_rfl) (a1d rfl (fun w=>by kernel_rfl) rfl (hC.out.b.cell 2)) ?_)
        | (go_at_call 142;(with_reducible refine(cD.out _ hC.out.tp).mono ?_);rintro e v43 ⟨rfl,h43,k43⟩;replace hC:=hjd (hC.out.tape h43 k43);clear h43 k43))
       refine⟨rfl,hC.out.b,Txt.a0e ?_⟩;go_wp2_with (first
        | ((with_reducible refine a0f 44 ?_);(refine a1a (o:=⟨some 44,_,_,_,_,_⟩) (v0:=ab D.1) (cells:=(bv D.1).toArray) rfl a4c rfl rfl (by decide) rfl (by simpa using LD.out) ?_);intro gm wm mm;have Rm:=hjd (a4x (cells:=bv D.1) mm.blk (by simpa using LD.out));replace hC:=hjd (hC.out.a0k mm.kept);clear mm))
       refine⟨rfl,hC.out.b,Txt.a0e ?_⟩;go_wp2_with (first
        | (at_builtin;refine a1q a4c rfl (.tmp 41) (.tmp 44) rfl rfl (xs:=gs.flatMap bv) (n:=gs.length) (m:=1) (news:=bv D.1) hC.out.g rfl Rm.out (a2x _) (by have:=hal2.out;omega) (by have:=hal2.out;omega) ?_;intro x5 w5 o5 k5 b5;have o5':Ow w5 32 64 x5 (gs ++ [D.1]).length ((gs ++ [D.1]).flatMap bv):=by simpa using o5
           have one5:=hjd (a4w o5);replace hC:=hjd (hC.out.d7w o5' k5 b5);clear o5 o5' k5 b5 Rm))
       refine⟨rfl,hC.out.b,Txt.a0e ?_⟩;go_wp2_with fail;refine⟨rfl,hC.out.b,Txt.a0w ⟨⟨by kernel_rfl,?_⟩,?_⟩⟩
       ·intro j hj o ho hw;obtain rfl:j=1:=by simpa using hj
        cases ho
        exact⟨41,rfl,fun u hu=>a1d rfl (fun w=>by kernel_rfl) rfl (hu.cell 2)⟩
       unfold Txt.a2t;refine a2l (.tmp 46) (.tmp 45) rfl rfl rfl one5.out (by kernel_rfl) hC.out.b (by show 2 < 3;decide) ?_;intro wt b7 k7;replace hC:=hjd (hC.out.st (d1:=x4) (d2:=x5) b7 k7);clear b7 k7;unfold Txt.a2t;simp [Act.put];go_wp2_with fail;go_roundg m;case measure=>omega
       case rel=>exact⟨D.2,acc ++ [((Bn.1:Int),D.1)],false,_,_,by omega,by go_num,(by rw [decide_eq_false (show ¬((65536:Int) < (Bn.1:Int))from by omega)]),OD,hjd (by rw [a5a,a5b,hns.out,hgs.out];exact hC.out),hjd (by rw [hE2.out];simp [hg2.out])⟩
   ·have hb2:(s.1 == 0)=false:=by simpa using h0
    replace h0:=hjd h0;have e:=hjd (show RC=(⟨bd,acc.map (·.1),acc.map (·.2)⟩,fm,s)from by rw [HR.out,hE.out,a9b _ h0.out];simp);replace hx10:=hjd hx10;generalize acc.map (·.1)=ns at *;generalize acc.map (·.2)=gs at *;go_wp2_with (first
     | ((with_reducible refine a0f 47 ?_);refine a0d (cs:=#[x10,.slice SV ns.length sc1,.slice GV gs.length gc1]) (o:=⟨some 47,_,_,_,_,_⟩) a2i (by kernel_rfl) (.tmp 4) rfl rfl hC.out.b rfl ?_)
     | (refine a0a (cs:=#[x10,.slice SV ns.length sc1,.slice GV gs.length gc1]) (o:=⟨none,Op.store 56 (.tmp 2) (.tmp 47),_,_,_,_⟩) a2i rfl (.tmp 2) (.tmp 47) rfl rfl rfl hC.out.z rfl rfl (by rw [hx10.out];exact a1v _ _ _ _ _ _ _ _ _) ?_;intro wz bz kz))
    rw [e.out];have on:∀{e:TypeId} {z n:Nat} {y:Value} {xs:List Value},Ow _ e z y n xs→e≠56→∀k,y.ownBlock=some k→k∉[g2]:=fun ho he k e hm=>ho.a2r hC.out.z he (by rw [e,List.mem_singleton.1 hm])
    have hfz:=hC.out.fz;have hfb2:=hC.out.hb;have hft:=hC.out.ht;exact a1j a2i rfl rfl bz rfl rfl ⟨_,_,_,rfl,hC.out.m.kept kz (fun hn k e hm=>by have:=hC.out.mb hn k e;have:=List.mem_singleton.1 hm;omega),hC.out.mb,hC.out.s.kept kz (on hC.out.s (by decide)),hC.out.g.kept kz (on hC.out.g (by decide)),hC.out.tp.kept kz (by simp;omega) (fun k hm=>by have:=List.mem_singleton.1 hm;omega),hC.out.k.trans kz (fun _ _ h=>h) (fun k hlt hm=>absurd (List.mem_singleton.1 hm) (by omega))⟩
end Go.Proofs.YtdbngnlpafcogaaGreat
namespace Go.Proofs.YtdbngnlpafcogaaGreat
open Go.RowKit Go.Mem Go.Txt
end Go.Proofs.YtdbngnlpafcogaaGreat
namespace Go.Proofs.YtdbngnlpafcogaaGreat
open Go.RowKit Go.Mem Go.Txt
theorem a9g{w w0 w1:World}{t:Nat}{v:Value}{bs:List UInt8}(hr:Rd w 1 v bs.length (bv bs))(hb:bs.length≤9223372036854775807)(k:Kept [] w w0)(m:Made w0 w1 t 122 #[v,.int .i64 0,.int .i64 0]):a4f w1 w.heap.size t (0,bs):=
 ⟨v,bs,0,m.blk,(hr.a0k k).a0k m.kept,Nat.zero_le _,hb,rfl,Nat.le_trans k.size m.le,fun h0 g hg=>by
  obtain⟨b,h1,h2⟩:=hr.lt (by omega) h0;rw [h1]at hg
  cases hg
  exact h2⟩
set_option maxHeartbeats 6400000 in
theorem c4h{bs:List UInt8}(v:Value)(w:World)(hr:Rd w 1 v bs.length (bv bs))(hb:bs.length≤140737488351232) :
 Calls Tryz.prog 27 #[v] w fun e w'=>∃b2 s2 g2,e= .returned (.tuple #[.agg #[b2,s2,g2],.int .i64 (a3i bs).2])∧a1o (a3i bs).1.bd b2 w'∧Rd w' 1 s2 (a3i bs).1.ns.length (iv (a3i bs).1.ns)∧Rd w' 64 g2 (a3i bs).1.gs.length ((a3i bs).1.gs.flatMap bv)∧Kept [] w w':=by
 have H:=hjd hr;obtain⟨VA,vc,rfl,_⟩:=id hr;clear hr;have hb:=hjd hb;have HP:a3i bs=if a8t (a2p (0,bs)).2.2≠0 then(⟨[],[],[]⟩,a8t (a2p (0,bs)).2.2)else if (a2p (0,bs)).2.1=true then(⟨[],[],[]⟩,13)else((a2p (0,bs)).1,0):=rfl
 have HK:okS (a2p (0,bs)).2.2:=d8q (show okS (0,bs)from .inl rfl);have cr:=hjd (fun t u (h:a4f u w.heap.size t (0,bs)) (h2:w.heap.size≤u.heap.size)=>d1b u h h2 (.inl rfl));generalize a3i bs=PU at *;generalize a2p (0,bs)=RC at *;obtain⟨⟨bd,ns,gs⟩,fm,s⟩:=RC
 dsimp only at HP HK cr
 replace HP:=hjd HP;have cd:=hjd (fun base t u (h:a4f u base t s)=>d8m base t s u h);rcases b8x HK with⟨h0,hd⟩ | ⟨h0,hd⟩ | ⟨h0,hd⟩ | ⟨h0,hd⟩
 ·cases fm with
  | true=>
    have e:PU=(⟨[],[],[]⟩,13):=by rw [HP.out];simp [hd]
    replace e:=hjd e;have h0':=hjd h0;clear h0;go_enter Tryz.func27,Tryz.ntmps27;go_wp2_with (first
     | ((with_reducible refine a0f 2 ?_);(refine a0h (o:=⟨some 2,_,_,_,_,_⟩) rfl rfl a2v ?_);intro g2 w2 m2;have Z:=hjd (show Blk w2 g2 56 #[.slice none 0 0,.slice none 0 0,.slice none 0 0]from m2.blk);have LZ:=hjd m2.le;have KK:=hjd m2.kept;clear m2)
     | ((with_reducible refine a0f 10 ?_);(refine a0q (o:=⟨some 10,_,_,_,_,_⟩) (v:=.agg #[.slice VA bs.length vc,.int .i64 0,.int .i64 0]) rfl (.tmp 9) rfl rfl ?_);intro g10 w10 m10;have T:=hjd (a9g H.out (by have:=hb.out;omega) KK.out m10);have GL:=hjd (Nat.le_trans KK.out.size m10.le);replace Z:=hjd (Z.out.kept m10.kept (by simp));replace KK:=hjd (KK.out.a0g m10.kept);have LS:=hjd KK.out.size;clear m10)
     | (go_at_call 83;(with_reducible refine(cr.out g10 _ T.out LS.out).mono ?_);rintro e v13 ⟨b2,s2,x2,rfl,h1,h2,h3,h4,h5,h6⟩;have RB:=hjd h1;have RF:=hjd h2;have RS:=hjd h3;have RG:=hjd h4;replace Z:=hjd (Z.out.kept h6 (by obtain⟨y,z,q,hq,_⟩:=T.out;simpa using Z.out.ne_ hq (by decide)));have T2:=hjd h5;replace KK:=hjd (KK.out.fresh h6 (by simpa using GL.out));obtain⟨B2,b2c,rfl,_⟩:=h1;obtain⟨S2,s2c,rfl,_⟩:=h3.shape;obtain⟨X2,x2c,rfl,_⟩:=h4.shape;clear h2 h5 h6)
     | ((with_reducible refine a0f 5 ?_);(refine a0h (o:=⟨some 5,_,_,_,_,_⟩) rfl rfl a2v ?_);intro g5 w5 m5;refine a0a (cs:=#[.slice B2 bd.length b2c,.slice S2 ns.length s2c,.slice X2 gs.length x2c]) (o:=⟨none,Op.store 56 (.tmp 5) (.tmp 14),_,_,_,_⟩) a2i rfl (.tmp 5) (.tmp 14) rfl rfl rfl m5.blk rfl rfl (a1v _ _ _ _ _ _ _ _ _) ?_;intro w6 b6 k6;have kk:=m5.kept.a0r k6 m5.le;have B5:=hjd b6;replace RB:=hjd (a1o.a0k RB.out kk);replace RS:=hjd (RS.out.a0k kk);replace RG:=hjd (RG.out.a0k kk);replace Z:=hjd (Z.out.kept kk (by simp));replace T2:=hjd (T2.out.a0k kk);replace KK:=hjd (KK.out.a0g kk);clear m5 b6 k6 kk)
     | (go_at_call 75;(with_reducible refine(cd.out _ _ _ T2.out).mono ?_);rintro e v17 ⟨rfl,kk⟩;replace RB:=hjd (a1o.a0k RB.out kk);replace RS:=hjd (RS.out.a0k kk);replace RG:=hjd (RG.out.a0k kk);replace Z:=hjd (Z.out.kept kk (by simp));replace B5:=hjd (B5.out.kept kk (by simp));replace KK:=hjd (KK.out.a0g kk);clear kk)
     | ((with_reducible refine a0f 23 ?_);refine a0y (cs:=#[.slice none 0 0,.slice none 0 0,.slice none 0 0]) rfl rfl (by kernel_rfl) ?_)
     | (refine a0a (cs:=#[.slice none 0 0,.slice none 0 0,.slice none 0 0]) (o:=⟨none,Op.store 56 (.tmp 2) (.tmp 23),_,_,_,_⟩) a2i rfl (.tmp 2) (.tmp 23) rfl rfl rfl Z.out rfl rfl (a1v _ _ _ _ _ _ _ _ _) ?_;intro wz bz kz))
    rw [e.out];exact a1j a2i rfl rfl bz rfl rfl ⟨_,_,_,rfl,Rd.nil _ _,Rd.nil _ _,Rd.nil _ _,KK.out.a0r kz LZ.out⟩
  | false=>
    have e:PU=(⟨bd,ns,gs⟩,0):=by rw [HP.out];simp [hd]
    replace e:=hjd e;have h0':=hjd h0;clear h0;go_enter Tryz.func27,Tryz.ntmps27;go_wp2_with (first
     | ((with_reducible refine a0f 2 ?_);(refine a0h (o:=⟨some 2,_,_,_,_,_⟩) rfl rfl a2v ?_);intro g2 w2 m2;have Z:=hjd (show Blk w2 g2 56 #[.slice none 0 0,.slice none 0 0,.slice none 0 0]from m2.blk);have LZ:=hjd m2.le;have KK:=hjd m2.kept;clear m2)
     | ((with_reducible refine a0f 10 ?_);(refine a0q (o:=⟨some 10,_,_,_,_,_⟩) (v:=.agg #[.slice VA bs.length vc,.int .i64 0,.int .i64 0]) rfl (.tmp 9) rfl rfl ?_);intro g10 w10 m10;have T:=hjd (a9g H.out (by have:=hb.out;omega) KK.out m10);have GL:=hjd (Nat.le_trans KK.out.size m10.le);replace Z:=hjd (Z.out.kept m10.kept (by simp));replace KK:=hjd (KK.out.a0g m10.kept);have LS:=hjd KK.out.size;clear m10)
     | (go_at_call 83;(with_reducible refine(cr.out g10 _ T.out LS.out).mono ?_);rintro e v13 ⟨b2,s2,x2,rfl,h1,h2,h3,h4,h5,h6⟩;have RB:=hjd h1;have RF:=hjd h2;have RS:=hjd h3;have RG:=hjd h4;replace Z:=hjd (Z.out.kept h6 (by obtain⟨y,z,q,hq,_⟩:=T.out;simpa using Z.out.ne_ hq (by decide)));have T2:=hjd h5;replace KK:=hjd (KK.out.fresh h6 (by simpa using GL.out));obtain⟨B2,b2c,rfl,_⟩:=h1;obtain⟨S2,s2c,rfl,_⟩:=h3.shape;obtain⟨X2,x2c,rfl,_⟩:=h4.shape;clear h2 h5 h6)
     | ((with_reducible refine a0f 5 ?_);(refine a0h (o:=⟨some 5,_,_,_,_,_⟩) rfl rfl a2v ?_);intro g5 w5 m5;refine a0a (cs:=#[.slice B2 bd.length b2c,.slice S2 ns.length s2c,.slice X2 gs.length x2c]) (o:=⟨none,Op.store 56 (.tmp 5) (.tmp 14),_,_,_,_⟩) a2i rfl (.tmp 5) (.tmp 14) rfl rfl rfl m5.blk rfl rfl (a1v _ _ _ _ _ _ _ _ _) ?_;intro w6 b6 k6;have kk:=m5.kept.a0r k6 m5.le;have B5:=hjd b6;replace RB:=hjd (a1o.a0k RB.out kk);replace RS:=hjd (RS.out.a0k kk);replace RG:=hjd (RG.out.a0k kk);replace Z:=hjd (Z.out.kept kk (by simp));replace T2:=hjd (T2.out.a0k kk);replace KK:=hjd (KK.out.a0g kk);clear m5 b6 k6 kk)
     | (go_at_call 75;(with_reducible refine(cd.out _ _ _ T2.out).mono ?_);rintro e v17 ⟨rfl,kk⟩;replace RB:=hjd (a1o.a0k RB.out kk);replace RS:=hjd (RS.out.a0k kk);replace RG:=hjd (RG.out.a0k kk);replace Z:=hjd (Z.out.kept kk (by simp));replace B5:=hjd (B5.out.kept kk (by simp));replace KK:=hjd (KK.out.a0g kk);clear kk)
     | ((with_reducible refine a0f 24 ?_);refine a0d (cs:=#[.slice B2 bd.length b2c,.slice S2 ns.length s2c,.slice X2 gs.length x2c]) (o:=⟨some 24,_,_,_,_,_⟩) a2i (by kernel_rfl) (.tmp 5) rfl rfl B5.out rfl ?_)
     | (refine a0a (cs:=#[.slice B2 bd.length b2c,.slice S2 ns.length s2c,.slice X2 gs.length x2c]) (o:=⟨none,Op.store 56 (.tmp 2) (.tmp 24),_,_,_,_⟩) a2i rfl (.tmp 2) (.tmp 24) rfl rfl rfl Z.out rfl rfl (a1v _ _ _ _ _ _ _ _ _) ?_;intro wz bz kz))
    rw [e.out];have on:∀{e:TypeId} {z n:Nat} {y:Value} {xs:List Value},Ow _ e z y n xs→e≠56→∀k,y.ownBlock=some k→k∉[g2]:=fun ho he k e hm=>ho.a2r Z.out he (by rw [e,List.mem_singleton.1 hm])
    have lz:=LZ.out;exact a1j a2i rfl rfl bz rfl rfl ⟨_,_,_,rfl,Rd.kept RB.out kz (fun hn k e hm=>by have:=RF.out hn k e;have:=List.mem_singleton.1 hm;omega),Rd.a6w (RS.out.kept kz (on RS.out (by decide))),Rd.a6w (RG.out.kept kz (on RG.out (by decide))),KK.out.a0r kz LZ.out⟩
 ·have e:PU=(⟨[],[],[]⟩,11):=by rw [HP.out];simp [hd]
  replace e:=hjd e;have h0':=hjd h0;clear h0;go_enter Tryz.func27,Tryz.ntmps27;go_wp2_with (first
   | ((with_reducible refine a0f 2 ?_);(refine a0h (o:=⟨some 2,_,_,_,_,_⟩) rfl rfl a2v ?_);intro g2 w2 m2;have Z:=hjd (show Blk w2 g2 56 #[.slice none 0 0,.slice none 0 0,.slice none 0 0]from m2.blk);have LZ:=hjd m2.le;have KK:=hjd m2.kept;clear m2)
   | ((with_reducible refine a0f 10 ?_);(refine a0q (o:=⟨some 10,_,_,_,_,_⟩) (v:=.agg #[.slice VA bs.length vc,.int .i64 0,.int .i64 0]) rfl (.tmp 9) rfl rfl ?_);intro g10 w10 m10;have T:=hjd (a9g H.out (by have:=hb.out;omega) KK.out m10);have GL:=hjd (Nat.le_trans KK.out.size m10.le);replace Z:=hjd (Z.out.kept m10.kept (by simp));replace KK:=hjd (KK.out.a0g m10.kept);have LS:=hjd KK.out.size;clear m10)
   | (go_at_call 83;(with_reducible refine(cr.out g10 _ T.out LS.out).mono ?_);rintro e v13 ⟨b2,s2,x2,rfl,h1,h2,h3,h4,h5,h6⟩;have RB:=hjd h1;have RF:=hjd h2;have RS:=hjd h3;have RG:=hjd h4;replace Z:=hjd (Z.out.kept h6 (by obtain⟨y,z,q,hq,_⟩:=T.out;simpa using Z.out.ne_ hq (by decide)));have T2:=hjd h5;replace KK:=hjd (KK.out.fresh h6 (by simpa using GL.out));obtain⟨B2,b2c,rfl,_⟩:=h1;obtain⟨S2,s2c,rfl,_⟩:=h3.shape;obtain⟨X2,x2c,rfl,_⟩:=h4.shape;clear h2 h5 h6)
   | ((with_reducible refine a0f 5 ?_);(refine a0h (o:=⟨some 5,_,_,_,_,_⟩) rfl rfl a2v ?_);intro g5 w5 m5;refine a0a (cs:=#[.slice B2 bd.length b2c,.slice S2 ns.length s2c,.slice X2 gs.length x2c]) (o:=⟨none,Op.store 56 (.tmp 5) (.tmp 14),_,_,_,_⟩) a2i rfl (.tmp 5) (.tmp 14) rfl rfl rfl m5.blk rfl rfl (a1v _ _ _ _ _ _ _ _ _) ?_;intro w6 b6 k6;have kk:=m5.kept.a0r k6 m5.le;have B5:=hjd b6;replace RB:=hjd (a1o.a0k RB.out kk);replace RS:=hjd (RS.out.a0k kk);replace RG:=hjd (RG.out.a0k kk);replace Z:=hjd (Z.out.kept kk (by simp));replace T2:=hjd (T2.out.a0k kk);replace KK:=hjd (KK.out.a0g kk);clear m5 b6 k6 kk)
   | (go_at_call 75;(with_reducible refine(cd.out _ _ _ T2.out).mono ?_);rintro e v17 ⟨rfl,kk⟩;replace RB:=hjd (a1o.a0k RB.out kk);replace RS:=hjd (RS.out.a0k kk);replace RG:=hjd (RG.out.a0k kk);replace Z:=hjd (Z.out.kept kk (by simp));replace B5:=hjd (B5.out.kept kk (by simp));replace KK:=hjd (KK.out.a0g kk);clear kk)
   | ((with_reducible refine a0f 20 ?_);refine a0y (cs:=#[.slice none 0 0,.slice none 0 0,.slice none 0 0]) rfl rfl (by kernel_rfl) ?_)
   | (refine a0a (cs:=#[.slice none 0 0,.slice none 0 0,.slice none 0 0]) (o:=⟨none,Op.store 56 (.tmp 2) (.tmp 20),_,_,_,_⟩) a2i rfl (.tmp 2) (.tmp 20) rfl rfl rfl Z.out rfl rfl (a1v _ _ _ _ _ _ _ _ _) ?_;intro wz bz kz))
  rw [e.out];exact a1j a2i rfl rfl bz rfl rfl ⟨_,_,_,rfl,Rd.nil _ _,Rd.nil _ _,Rd.nil _ _,KK.out.a0r kz LZ.out⟩
 ·have e:PU=(⟨[],[],[]⟩,10):=by rw [HP.out];simp [hd]
  replace e:=hjd e;have h0':=hjd h0;clear h0;go_enter Tryz.func27,Tryz.ntmps27;go_wp2_with (first
   | ((with_reducible refine a0f 2 ?_);(refine a0h (o:=⟨some 2,_,_,_,_,_⟩) rfl rfl a2v ?_);intro g2 w2 m2;have Z:=hjd (show Blk w2 g2 56 #[.slice none 0 0,.slice none 0 0,.slice none 0 0]from m2.blk);have LZ:=hjd m2.le;have KK:=hjd m2.kept;clear m2)
   | ((with_reducible refine a0f 10 ?_);(refine a0q (o:=⟨some 10,_,_,_,_,_⟩) (v:=.agg #[.slice VA bs.length vc,.int .i64 0,.int .i64 0]) rfl (.tmp 9) rfl rfl ?_);intro g10 w10 m10;have T:=hjd (a9g H.out (by have:=hb.out;omega) KK.out m10);have GL:=hjd (Nat.le_trans KK.out.size m10.le);replace Z:=hjd (Z.out.kept m10.kept (by simp));replace KK:=hjd (KK.out.a0g m10.kept);have LS:=hjd KK.out.size;clear m10)
   | (go_at_call 83;(with_reducible refine(cr.out g10 _ T.out LS.out).mono ?_);rintro e v13 ⟨b2,s2,x2,rfl,h1,h2,h3,h4,h5,h6⟩;have RB:=hjd h1;have RF:=hjd h2;have RS:=hjd h3;have RG:=hjd h4;replace Z:=hjd (Z.out.kept h6 (by obtain⟨y,z,q,hq,_⟩:=T.out;simpa using Z.out.ne_ hq (by decide)));have T2:=hjd h5;replace KK:=hjd (KK.out.fresh h6 (by simpa using GL.out));obtain⟨B2,b2c,rfl,_⟩:=h1;obtain⟨S2,s2c,rfl,_⟩:=h3.shape;obtain⟨X2,x2c,rfl,_⟩:=h4.shape;clear h2 h5 h6)
   | ((with_reducible refine a0f 5 ?_);(refine a0h (o:=⟨some 5,_,_,_,_,_⟩) rfl rfl a2v ?_);intro g5 w5 m5;refine a0a (cs:=#[.slice B2 bd.length b2c,.slice S2 ns.length s2c,.slice X2 gs.length x2c]) (o:=⟨none,Op.store 56 (.tmp 5) (.tmp 14),_,_,_,_⟩) a2i rfl (.tmp 5) (.tmp 14) rfl rfl rfl m5.blk rfl rfl (a1v _ _ _ _ _ _ _ _ _) ?_;intro w6 b6 k6;have kk:=m5.kept.a0r k6 m5.le;have B5:=hjd b6;replace RB:=hjd (a1o.a0k RB.out kk);replace RS:=hjd (RS.out.a0k kk);replace RG:=hjd (RG.out.a0k kk);replace Z:=hjd (Z.out.kept kk (by simp));replace T2:=hjd (T2.out.a0k kk);replace KK:=hjd (KK.out.a0g kk);clear m5 b6 k6 kk)
   | (go_at_call 75;(with_reducible refine(cd.out _ _ _ T2.out).mono ?_);rintro e v17 ⟨rfl,kk⟩;replace RB:=hjd (a1o.a0k RB.out kk);replace RS:=hjd (RS.out.a0k kk);replace RG:=hjd (RG.out.a0k kk);replace Z:=hjd (Z.out.kept kk (by simp));replace B5:=hjd (B5.out.kept kk (by simp));replace KK:=hjd (KK.out.a0g kk);clear kk)
   | ((with_reducible refine a0f 20 ?_);refine a0y (cs:=#[.slice none 0 0,.slice none 0 0,.slice none 0 0]) rfl rfl (by kernel_rfl) ?_)
   | (refine a0a (cs:=#[.slice none 0 0,.slice none 0 0,.slice none 0 0]) (o:=⟨none,Op.store 56 (.tmp 2) (.tmp 20),_,_,_,_⟩) a2i rfl (.tmp 2) (.tmp 20) rfl rfl rfl Z.out rfl rfl (a1v _ _ _ _ _ _ _ _ _) ?_;intro wz bz kz))
  rw [e.out];exact a1j a2i rfl rfl bz rfl rfl ⟨_,_,_,rfl,Rd.nil _ _,Rd.nil _ _,Rd.nil _ _,KK.out.a0r kz LZ.out⟩
 ·have e:PU=(⟨[],[],[]⟩,12):=by rw [HP.out];simp [hd]
  replace e:=hjd e;have h0':=hjd h0;clear h0;go_enter Tryz.func27,Tryz.ntmps27;go_wp2_with (first
   | ((with_reducible refine a0f 2 ?_);(refine a0h (o:=⟨some 2,_,_,_,_,_⟩) rfl rfl a2v ?_);intro g2 w2 m2;have Z:=hjd (show Blk w2 g2 56 #[.slice none 0 0,.slice none 0 0,.slice none 0 0]from m2.blk);have LZ:=hjd m2.le;have KK:=hjd m2.kept;clear m2)
   | ((with_reducible refine a0f 10 ?_);(refine a0q (o:=⟨some 10,_,_,_,_,_⟩) (v:=.agg #[.slice VA bs.length vc,.int .i64 0,.int .i64 0]) rfl (.tmp 9) rfl rfl ?_);intro g10 w10 m10;have T:=hjd (a9g H.out (by have:=hb.out;omega) KK.out m10);have GL:=hjd (Nat.le_trans KK.out.size m10.le);replace Z:=hjd (Z.out.kept m10.kept (by simp));replace KK:=hjd (KK.out.a0g m10.kept);have LS:=hjd KK.out.size;clear m10)
   | (go_at_call 83;(with_reducible refine(cr.out g10 _ T.out LS.out).mono ?_);rintro e v13 ⟨b2,s2,x2,rfl,h1,h2,h3,h4,h5,h6⟩;have RB:=hjd h1;have RF:=hjd h2;have RS:=hjd h3;have RG:=hjd h4;replace Z:=hjd (Z.out.kept h6 (by obtain⟨y,z,q,hq,_⟩:=T.out;simpa using Z.out.ne_ hq (by decide)));have T2:=hjd h5;replace KK:=hjd (KK.out.fresh h6 (by simpa using GL.out));obtain⟨B2,b2c,rfl,_⟩:=h1;obtain⟨S2,s2c,rfl,_⟩:=h3.shape;obtain⟨X2,x2c,rfl,_⟩:=h4.shape;clear h2 h5 h6)
   | ((with_reducible refine a0f 5 ?_);(refine a0h (o:=⟨some 5,_,_,_,_,_⟩) rfl rfl a2v ?_);intro g5 w5 m5;refine a0a (cs:=#[.slice B2 bd.length b2c,.slice S2 ns.length s2c,.slice X2 gs.length x2c]) (o:=⟨none,Op.store 56 (.tmp 5) (.tmp 14),_,_,_,_⟩) a2i rfl (.tmp 5) (.tmp 14) rfl rfl rfl m5.blk rfl rfl (a1v _ _ _ _ _ _ _ _ _) ?_;intro w6 b6 k6;have kk:=m5.kept.a0r k6 m5.le;have B5:=hjd b6;replace RB:=hjd (a1o.a0k RB.out kk);replace RS:=hjd (RS.out.a0k kk);replace RG:=hjd (RG.out.a0k kk);replace Z:=hjd (Z.out.kept kk (by simp));replace T2:=hjd (T2.out.a0k kk);replace KK:=hjd (KK.out.a0g kk);clear m5 b6 k6 kk)
   | (go_at_call 75;(with_reducible refine(cd.out _ _ _ T2.out).mono ?_);rintro e v17 ⟨rfl,kk⟩;replace RB:=hjd (a1o.a0k RB.out kk);replace RS:=hjd (RS.out.a0k kk);replace RG:=hjd (RG.out.a0k kk);replace Z:=hjd (Z.out.kept kk (by simp));replace B5:=hjd (B5.out.kept kk (by simp));replace KK:=hjd (KK.out.a0g kk);clear kk)
   | ((with_reducible refine a0f 20 ?_);refine a0y (cs:=#[.slice none 0 0,.slice none 0 0,.slice none 0 0]) rfl rfl (by kernel_rfl) ?_)
   | (refine a0a (cs:=#[.slice none 0 0,.slice none 0 0,.slice none 0 0]) (o:=⟨none,Op.store 56 (.tmp 2) (.tmp 20),_,_,_,_⟩) a2i rfl (.tmp 2) (.tmp 20) rfl rfl rfl Z.out rfl rfl (a1v _ _ _ _ _ _ _ _ _) ?_;intro wz bz kz))
  rw [e.out];exact a1j a2i rfl rfl bz rfl rfl ⟨_,_,_,rfl,Rd.nil _ _,Rd.nil _ _,Rd.nil _ _,KK.out.a0r kz LZ.out⟩
end Go.Proofs.YtdbngnlpafcogaaGreat
namespace Go.Proofs.YtdbngnlpafcogaaGreat
open Go.RowKit Go.Mem Go.Txt
section
variable {W:World} {a:Act} {o:Oper}
theorem c2e{x y:Operand}{t':TypeId}{i:Int}(ho:o.op= .binOp .neq 3 x y t')(hx:a.eval x= .int .i64 i)(hy:a.eval y= .int .i64 i):(execOp a.eval o).run Tryz.prog W= .ok (.value (.bool false)) W:=by
 simp [execOp,ho,hx,hy,binOp,Op.intCmp,eqGuard]
theorem b9u{x:Operand}{v:Value}{bs:List UInt8}(ho:o.op= .convert 23 9 x)(hx:a.eval x=v)(hr:a1o bs v W):(execOp a.eval o).run Tryz.prog W= .ok (.value (.string (mkS bs))) W:=by
 have h:=d4i (P:=Tryz.prog) (s:=23) (d:=9) (e:=5) rfl rfl rfl hr;simp [execOp,ho,hx,h]
theorem c1l{x y:Operand}{s:ByteArray}{t':TypeId}(ho:o.op= .binOp .neq 9 x y t')(hx:a.eval x= .string s)(hy:a.eval y= .string s):(execOp a.eval o).run Tryz.prog W= .ok (.value (.bool false)) W:=by
 have h1:=run_equalIn_string (P:=Tryz.prog) W 9999 9 s s Tryz.underlying9;simp [execOp,ho,hx,hy,binOp,Op.equal,Op.maxDepth,h1,eqGuard,Op.stringOp]
theorem arrS7:ArrT Tryz.prog 32 5 64:=⟨Tryz.underlying32,by kernel_rfl⟩
end
set_option maxHeartbeats 3200000 in
theorem c4t{bd:List UInt8}{ns:List Int}{gs:List (List UInt8)}(ba sa ga bb sb gb:Value)(w:World)(hba:a1o bd ba w)(hsa:Rd w 1 sa ns.length (iv ns))(hga:Rd w 64 ga gs.length (gs.flatMap bv))(hbb:a1o bd bb w)(hsb:Rd w 1 sb ns.length (iv ns))(hgb:Rd w 64 gb gs.length (gs.flatMap bv))(hl:∀g∈gs,g.length=64)(hnl:ns.length≤1048576)(hgl:gs.length≤1048576) :
 Calls Tryz.prog 28 #[.agg #[ba,sa,ga],.agg #[bb,sb,gb]] w fun e w'=>e= .returned (.bool true)∧Kept [] w w':=by
 obtain⟨Ba,bac,rfl,_⟩:=id hba;obtain⟨Sa,sac,rfl,_⟩:=id hsa;obtain⟨Ga,gac,rfl,_⟩:=id hga;obtain⟨Bb,bbc,rfl,_⟩:=id hbb;obtain⟨Sb,sbc,rfl,_⟩:=id hsb;obtain⟨Gb,gbc,rfl,_⟩:=id hgb;replace hba:=hjd hba;replace hsa:=hjd hsa;replace hga:=hjd hga;replace hbb:=hjd hbb;replace hsb:=hjd hsb;replace hgb:=hjd hgb;replace hl:=hjd hl;go_enter Tryz.func28,Tryz.ntmps28;go_upto_region 3 with(first
  | ((with_reducible refine a0f 2 ?_);(refine a0q (o:=⟨some 2,_,_,_,_,_⟩) (v:=.agg #[.slice Ba bd.length bac,.slice Sa ns.length sac,.slice Ga gs.length gac]) rfl (.tmp 0) rfl rfl ?_);intro g2 w2 m2;have BA:=hjd (show Blk w2 g2 56 #[.slice Ba bd.length bac,.slice Sa ns.length sac,.slice Ga gs.length gac]from m2.blk);have K:=hjd m2.kept;clear m2)
  | ((with_reducible refine a0f 3 ?_);(refine a0q (o:=⟨some 3,_,_,_,_,_⟩) (v:=.agg #[.slice Bb bd.length bbc,.slice Sb ns.length sbc,.slice Gb gs.length gbc]) rfl (.tmp 1) rfl rfl ?_);intro g3 w3 m3;have BB:=hjd (show Blk w3 g3 56 #[.slice Bb bd.length bbc,.slice Sb ns.length sbc,.slice Gb gs.length gbc]from m3.blk);replace BA:=hjd (BA.out.kept m3.kept (by simp));replace K:=hjd (K.out.a0g m3.kept);clear m3)
  | ((with_reducible refine a0f 8 ?_);refine a0p (v:=.slice Ba bd.length bac) (by kernel_rfl) (a1d rfl (fun w=>by kernel_rfl) rfl (BA.out.cell 0)) ?_)
  | ((with_reducible refine a0f 11 ?_);refine a0p (v:=.slice Bb bd.length bbc) (by kernel_rfl) (a1d rfl (fun w=>by kernel_rfl) rfl (BB.out.cell 0)) ?_)
  | ((with_reducible refine a0f 9 ?_);refine a0p (v:=.string (mkS bd)) (by kernel_rfl) (b9u rfl rfl (a1o.a0k hba.out K.out)) ?_)
  | ((with_reducible refine a0f 12 ?_);refine a0p (v:=.string (mkS bd)) (by kernel_rfl) (b9u rfl rfl (a1o.a0k hbb.out K.out)) ?_)
  | ((with_reducible refine a0f 13 ?_);refine a0p (v:=.bool false) (by kernel_rfl) (c1l rfl rfl rfl) ?_)
  | ((with_reducible refine a0f 16 ?_);refine a0p (v:=.slice Sa ns.length sac) (by kernel_rfl) (a1d rfl (fun w=>by kernel_rfl) rfl (BA.out.cell 1)) ?_)
  | ((with_reducible refine a0f 19 ?_);refine a0p (v:=.slice Sb ns.length sbc) (by kernel_rfl) (a1d rfl (fun w=>by kernel_rfl) rfl (BB.out.cell 1)) ?_)
  | ((with_reducible refine a0f 21 ?_);refine a0p (v:=.bool false) (by kernel_rfl) (c2e rfl rfl rfl) ?_)
  | ((with_reducible refine a0f 25 ?_);refine a0p (v:=.slice Ga gs.length gac) (by kernel_rfl) (a1d rfl (fun w=>by kernel_rfl) rfl (BA.out.cell 2)) ?_)
  | ((with_reducible refine a0f 28 ?_);refine a0p (v:=.slice Gb gs.length gbc) (by kernel_rfl) (a1d rfl (fun w=>by kernel_rfl) rfl (BB.out.cell 2)) ?_)
  | ((with_reducible refine a0f 30 ?_);refine a0p (v:=.bool false) (by kernel_rfl) (c2e rfl rfl rfl) ?_))
 go_wp2_with (first
  | ((with_reducible refine a0f 33 ?_);refine a0p (v:=.slice Sa ns.length sac) (by kernel_rfl) (a1d rfl (fun w=>by kernel_rfl) rfl (BA.out.cell 1)) ?_))
 go_loopg [35] ns.length (fun f x35 wk=>∃j:Nat,j≤ns.length∧f + j=ns.length∧x35= .int .i64 (j:Int)∧Hid (Kept [] w3 wk))
 case atStart=>exact⟨0,by omega,by omega,rfl,hjd (Kept.refl _ _)⟩
 case round=>
  obtain⟨j,hj,hf,rfl,KK⟩:=hrel;by_cases hlt:j < ns.length
  ·have kd:=hjd ((KK.out.a0g (Kept.refl [] wr).drew));obtain⟨b1,o1,c1,e,e2,e3⟩:=((hsa.out.a0k K.out).a0k kd.out).at_ (by omega)
   cases e
   have q1:=hjd (e3 j (.int .i64 (ns.getD j 0)) (by simp [iv,List.getD_eq_getElem?_getD,List.getElem?_eq_getElem hlt]));clear e2 e3;obtain⟨b2,o2,c2,e,e2,e3⟩:=((hsb.out.a0k K.out).a0k kd.out).at_ (by omega)
   cases e
   have q2:=hjd (e3 j (.int .i64 (ns.getD j 0)) (by simp [iv,List.getD_eq_getElem?_getD,List.getElem?_eq_getElem hlt]));clear e2 e3;generalize ns.getD j 0=x at *;have hltH:=hjd hlt;go_upto_region 6 with fail
   have BA2:=hjd (BA.out.kept kd.out (by simp));have BB2:=hjd (BB.out.kept kd.out (by simp));refine Txt.a1k [] (fun _=>True) [[_,_,_,_,_,_,_,_,_,_,_]] (by kernel_rfl) (by kernel_rfl) rfl trivial (Txt.a0e ?_);go_wp2_with (first
    | ((with_reducible refine a0f 39 ?_);refine a0p (v:=.slice (some ⟨b1,o1,none⟩) ns.length sac) (by kernel_rfl) (a1d rfl (fun w=>by kernel_rfl) rfl (BA2.out.cell 1)) ?_)
    | ((with_reducible refine a0f 41 ?_);refine a0p (v:=.pointer (some ⟨b1,o1 + j,none⟩)) (by kernel_rfl) (b6e rfl rfl rfl (by have:=a5r (P:=Tryz.prog) (g:=b1) (off:=o1) (c:=sac) (i:=j) a4d hltH.out;rw [Nat.mul_one]at this;exact this _ _)) ?_)
    | ((with_reducible refine a0f 42 ?_);refine a0p (v:=.int .i64 x) (by kernel_rfl) (a1d rfl (fun w=>by kernel_rfl) rfl (q1.out)) ?_)
    | ((with_reducible refine a0f 44 ?_);refine a0p (v:=.slice (some ⟨b2,o2,none⟩) ns.length sbc) (by kernel_rfl) (a1d rfl (fun w=>by kernel_rfl) rfl (BB2.out.cell 1)) ?_)
    | ((with_reducible refine a0f 46 ?_);refine a0p (v:=.pointer (some ⟨b2,o2 + j,none⟩)) (by kernel_rfl) (b6e rfl rfl rfl (by have:=a5r (P:=Tryz.prog) (g:=b2) (off:=o2) (c:=sbc) (i:=j) a4d hltH.out;rw [Nat.mul_one]at this;exact this _ _)) ?_)
    | ((with_reducible refine a0f 47 ?_);refine a0p (v:=.int .i64 x) (by kernel_rfl) (a1d rfl (fun w=>by kernel_rfl) rfl (q2.out)) ?_)
    | ((with_reducible refine a0f 48 ?_);refine a0p (v:=.bool false) (by kernel_rfl) (c2e rfl rfl rfl) ?_))
   refine And.intro rfl (And.intro trivial (Txt.a0w ⟨⟨by kernel_rfl,by simp⟩,?_⟩));clear q1 q2 BA2 BB2;go_wp2_with fail;go_roundg (ns.length - (j + 1));case measure=>omega
   case rel=>exact⟨j + 1,by omega,by omega,by go_num,kd⟩
  ·obtain rfl:j=ns.length:=by omega
   clear hj hf hlt;go_wp2_with (first
    | ((with_reducible refine a0f 51 ?_);refine a0p (v:=.slice Ga gs.length gac) (by kernel_rfl) (a1d rfl (fun w=>by kernel_rfl) rfl ((BA.out.kept KK.out (by simp)).cell 2)) ?_))
   go_loopg [53] gs.length (fun f x53 wk=>∃j:Nat,j≤gs.length∧f + j=gs.length∧x53= .int .i64 (j:Int)∧Hid (Kept [] w3 wk))
   case atStart=>exact⟨0,by omega,by omega,rfl,KK⟩
   case round=>
    clear KK;obtain⟨j,hj,hf,rfl,KK⟩:=hrel;by_cases hlt:j < gs.length
    ·have kd:=hjd ((KK.out.a0g (Kept.refl [] wr).drew));obtain⟨pre,post,hp,hpl⟩:=c0t hlt hl.out;have hsl:=hjd (c5z hlt hl.out);obtain⟨b1,o1,c1,e,e2,e3⟩:=hga.out.at_ (by omega)
     cases e
     have q1:=hjd (Rd.elem (i:=j) ((hga.out.a0k K.out).a0k kd.out) hp hpl (by omega));clear e2 e3;obtain⟨b2,o2,c2,e,e2,e3⟩:=hgb.out.at_ (by omega)
     cases e
     have q2:=hjd (Rd.elem (i:=j) ((hgb.out.a0k K.out).a0k kd.out) hp hpl (by omega));clear e2 e3 hp hpl;generalize gs.getD j []=sg at *;have hltH:=hjd hlt;go_upto_region 12 with fail
     have BA2:=hjd (BA.out.kept kd.out (by simp));have BB2:=hjd (BB.out.kept kd.out (by simp));refine Txt.a1k [10] (fun _=>True) [[_,_,_,_,_,_,_,_,_,_,_]] (by kernel_rfl) (by kernel_rfl) rfl trivial (Txt.a0e ?_);go_wp2_with (first
      | ((with_reducible refine a0f 57 ?_);refine a0p (v:=.slice (some ⟨b1,o1,none⟩) gs.length gac) (by kernel_rfl) (a1d rfl (fun w=>by kernel_rfl) rfl (BA2.out.cell 2)) ?_)
      | ((with_reducible refine a0f 59 ?_);refine a0p (v:=.pointer (some ⟨b1,o1 + j * 64,none⟩)) (by kernel_rfl) (b6e rfl rfl rfl (a5r (P:=Tryz.prog) (g:=b1) (off:=o1) (c:=gac) (i:=j) a4c hltH.out _ _)) ?_)
      | ((with_reducible refine a0f 60 ?_);refine a1i (o:=⟨some 60,_,_,_,_,_⟩) (cs:=bv sg) Q.b7e (by kernel_rfl) (.tmp 59) rfl rfl q1.out (by simpa using hsl.out) ?_)
      | ((with_reducible refine a0f 62 ?_);refine a0p (v:=.slice (some ⟨b2,o2,none⟩) gs.length gbc) (by kernel_rfl) (a1d rfl (fun w=>by kernel_rfl) rfl (BB2.out.cell 2)) ?_)
      | ((with_reducible refine a0f 64 ?_);refine a0p (v:=.pointer (some ⟨b2,o2 + j * 64,none⟩)) (by kernel_rfl) (b6e rfl rfl rfl (a5r (P:=Tryz.prog) (g:=b2) (off:=o2) (c:=gbc) (i:=j) a4c hltH.out _ _)) ?_)
      | ((with_reducible refine a0f 65 ?_);refine a1i (o:=⟨some 65,_,_,_,_,_⟩) (cs:=bv sg) Q.b7e (by kernel_rfl) (.tmp 64) rfl rfl q2.out (by simpa using hsl.out) ?_)
      | ((with_reducible refine a0f 66 ?_);refine a0p (v:=.bool false) (by kernel_rfl) ((a3f arrS7 Tryz.underlying5 (by kernel_rfl) (by kernel_rfl) (.tmp 60) (.tmp 65) rfl (xs:=sg) (ys:=sg) rfl rfl hsl.out hsl.out).trans (by rw [beq_self_eq_true];rfl)) ?_))
     refine And.intro rfl (And.intro trivial (Txt.a0w ⟨⟨by kernel_rfl,?_⟩,?_⟩))
     ·intro j hj o ho hw;obtain rfl:j=10:=by simpa using hj
      cases ho
      exact⟨66,rfl,fun u hu=>(a3f arrS7 Tryz.underlying5 (by kernel_rfl) (by kernel_rfl) (.tmp 60) (.tmp 65) rfl (xs:=sg) (ys:=sg) rfl rfl hsl.out hsl.out).trans (by rw [beq_self_eq_true];rfl)⟩
     clear q1 q2 BA2 BB2;go_wp2_with fail;go_roundg (gs.length - (j + 1));case measure=>omega
     case rel=>exact⟨j + 1,by omega,by omega,by go_num,kd⟩
    ·obtain rfl:j=gs.length:=by omega
     go_wp2_with fail
     go_ret;exact⟨rfl,K.out.a0g KK.out⟩
end Go.Proofs.YtdbngnlpafcogaaGreat
namespace Go.Proofs.YtdbngnlpafcogaaGreat
open Go.RowKit Go.Mem Go.Txt
theorem d4u(bs:List UInt8):(a3i bs).1.bd.length≤1048576:=by
 unfold a3i;split
 ·simp
 ·split
  ·simp
  ·exact Nat.le_trans (a4q _ _) (a9k _ _)
set_option maxHeartbeats 6400000 in
theorem b7g{bd:List UInt8}{ns:List Int}{gs:List (List UInt8)}{bs:List UInt8}(bw sv gv bv0:Value)(w:World)(hb:a1o bd bw w)(hs:Rd w 1 sv ns.length (iv ns))(hg:Rd w 64 gv gs.length (gs.flatMap bv))(hl:∀g∈gs,g.length=64)(hbl:bd.length≤1048576)(hnl:ns.length≤1048576)
 (hr:a1o bs bv0 w) (hbs:bs.length≤1048576) (c1:∀u,Calls Tryz.prog 23 #[] u fun e w'=>e= .returned (.bool true)∧Kept [] u w') :
 Calls Tryz.prog 6 #[.agg #[bw,sv,gv],bv0] w fun e w'=>e= .returned (.bool true)∧Kept [] w w':=by
 have hX:=d0v (c:=⟨bd,ns,gs⟩) hl;have cb:=hjd (fun u (k:Kept [] w u)=>b6k bw sv gv u (a1o.a0k hb k) (hs.a0k k) (hg.a0k k) hl hbl hnl);have cr:=hjd (fun u (k:Kept [] w u)=>c2v bw sv gv u (a1o.a0k hb k) (hs.a0k k) (hg.a0k k) hl hbl hnl);obtain⟨BA,bc,rfl,_⟩:=id hb;obtain⟨SA,sc,rfl,_⟩:=id hs;obtain⟨GA,gc,rfl,_⟩:=id hg;obtain⟨RA,rc,rfl,_⟩:=id hr;clear hb hs hg hl;replace hr:=hjd hr;replace c1:=hjd c1;obtain⟨X,hXe⟩:∃X,b4c ⟨bd,ns,gs⟩=X:=⟨_,rfl⟩;rw [hXe]at hX cb cr;have hXl:=hjd (show X.length≤140737488351232 by rw [hX];show 16 + bd.length + ns.length * 72≤_;omega);clear hX hXe;go_enter Tryz.func6,Tryz.ntmps6;go_upto_region 4 with(first
  | ((with_reducible refine a0f 2 ?_);(refine a0q (o:=⟨some 2,_,_,_,_,_⟩) (v:=.agg #[.slice BA bd.length bc,.slice SA ns.length sc,.slice GA gs.length gc]) rfl (.tmp 0) rfl rfl ?_);intro g2 w2 m2;have B:=hjd (show Blk w2 g2 56 #[.slice BA bd.length bc,.slice SA ns.length sc,.slice GA gs.length gc]from m2.blk);have K:=hjd m2.kept;clear m2)
  | (go_at_call 23;(with_reducible refine(c1.out _).mono ?_);rintro e v13 ⟨rfl,kk⟩;replace B:=hjd (B.out.kept kk (by simp));replace K:=hjd (K.out.a0g kk);clear kk)
  | ((with_reducible refine a0f 15 ?_);refine a0d (cs:=#[.slice BA bd.length bc,.slice SA ns.length sc,.slice GA gs.length gc]) (o:=⟨some 15,_,_,_,_,_⟩) a2i (by kernel_rfl) (.tmp 2) rfl rfl B.out rfl ?_)
  | (go_at_call 24;(with_reducible refine(cb.out _ K.out).mono ?_);rintro e v16 ⟨x16,rfl,h16,kk⟩;have RX:=hjd h16;replace B:=hjd (B.out.kept kk (by simp));replace K:=hjd (K.out.a0g kk);clear h16 kk))
 have kd:=(Kept.refl [] v16).drew;replace B:=hjd (B.out.kept kd (by simp));replace K:=hjd (K.out.a0g kd);replace RX:=hjd (a1o.a0k RX.out kd);clear kd;refine Txt.a1k [1,2] (fun u=>a1o X x16 u∧Blk u g2 56 #[.slice BA bd.length bc,.slice SA ns.length sc,.slice GA gs.length gc]) [[_,_,_,_],[_,_]] (by kernel_rfl) (by kernel_rfl) rfl ⟨RX.out,B.out⟩ (Txt.a0e ?_);go_wp2_with (first
  | ((with_reducible refine a0f 18 ?_);refine a0p (v:=.string (mkS X)) (by kernel_rfl) (b9u rfl rfl RX.out) ?_)
  | ((with_reducible refine a0f 19 ?_);refine a0d (cs:=#[.slice BA bd.length bc,.slice SA ns.length sc,.slice GA gs.length gc]) (o:=⟨some 19,_,_,_,_,_⟩) a2i (by kernel_rfl) (.tmp 2) rfl rfl B.out rfl ?_)
  | (go_at_call 25;(with_reducible refine(cr.out _ K.out).mono ?_);rintro e v20 ⟨x20,rfl,h20,kk⟩;have RY:=hjd h20;replace RX:=hjd (a1o.a0k RX.out kk);replace B:=hjd (B.out.kept kk (by simp));replace K:=hjd (K.out.a0g kk);clear h20 kk))
 refine And.intro rfl (And.intro ⟨RX.out,B.out⟩ ?_);unfold Txt.a3j;go_wp2_with (first
  | ((with_reducible refine a0f 21 ?_);refine a0p (v:=.string (mkS X)) (by kernel_rfl) (b9u rfl rfl RY.out) ?_)
  | ((with_reducible refine a0f 22 ?_);refine a0p (v:=.bool false) (by kernel_rfl) (c1l rfl rfl rfl) ?_))
 refine And.intro rfl (And.intro ⟨RX.out,B.out⟩ (Txt.a0w ⟨⟨by kernel_rfl,?_⟩,?_⟩))
 ·intro j hj o ho hw;have hj2:j=1∨j=2:=by simpa using hj
  rcases hj2 with rfl | rfl <;> cases ho
  ·exact⟨18,rfl,fun u hu=>b9u rfl rfl hu.1⟩
  ·exact⟨19,rfl,fun u hu=>a1c a2i (.tmp 2) rfl rfl hu.2 rfl⟩
 clear RY B;have cX:=hjd (show x16.cells= #[x16]from by obtain⟨A,c,e,_⟩:=RX.out;rw [e];rfl);go_wp2_with (first
  | ((with_reducible refine a0f 25 ?_);(refine a3c (o:=⟨some 25,_,_,_,_,_⟩) rfl a4j rfl rfl rfl cX.out rfl ?_);intro g25 w25 m25;have Y:=hjd (show Blk w25 g25 23 #[x16,.slice RA bs.length rc]from m25.blk);replace RX:=hjd (a1o.a0k RX.out m25.kept);replace K:=hjd (K.out.a0g m25.kept);clear m25))
 go_loopg [27] 2 (fun f x27 wk=>∃j:Nat,j≤2∧f + j=2∧x27= .int .i64 (j:Int)∧Hid (Kept [] w25 wk))
 case atStart=>exact⟨0,by omega,by omega,rfl,hjd (Kept.refl _ _)⟩
 case round=>
  obtain⟨j,hj,hf,rfl,KK⟩:=hrel;by_cases hlt:j < 2
  ·obtain⟨y,ys,hc,hy,hyl⟩:∃(y:Value) (ys:List UInt8),wr.cell? ⟨g25,j,none⟩=some y∧a1o ys y wr∧ys.length≤140737488351232:=by
    have hb2:=Y.out.kept KK.out (by simp);obtain rfl | rfl:j=0∨j=1:=by omega
    ·exact⟨x16,X,hb2.cell 0,a1o.a0k RX.out KK.out,hXl.out⟩
    ·exact⟨.slice RA bs.length rc,bs,hb2.cell 1,a1o.a0k (a1o.a0k hr.out K.out) KK.out,by omega⟩
   obtain⟨YA,yc,rfl,_⟩:=id hy;replace hc:=hjd hc;replace hy:=hjd hy;replace hyl:=hjd hyl;have hltH:=hjd hlt;have hCL:=hjd (d1y ys);have hPl:=hjd (c9t ys);have hPb:=hjd (d4u ys);have hback:=hjd (fun h=>c4q (bs:=ys) h);have cp:=hjd (fun u (h:a1o ys (.slice YA ys.length yc) u)=>d0y (.slice YA ys.length yc) u h hyl.out);have cq:=hjd (fun u (h:a1o ys (.slice YA ys.length yc) u)=>c4h (.slice YA ys.length yc) u h hyl.out);generalize a3i ys=PC at *;obtain⟨⟨PB,PN,PG⟩,E⟩:=PC
   dsimp only at hCL hPl hPb hback cp cq
   have hPn:=hjd (show PN.length≤1048576 by have:=hPl.out.1;show PN.length≤_;have h2:PN.length≤65536:=this;omega);have hPg:=hjd (show PG.length≤1048576 by have h1:PN.length≤65536:=hPl.out.1;have h2:PG.length=PN.length:=hPl.out.2;omega);clear hPl;go_upto_region 12 with(first
    | ((with_reducible refine a0f 29 ?_);refine a0p (v:=.pointer (some ⟨g25,j,none⟩)) (by kernel_rfl) (b6e rfl rfl rfl (by have:=a5r (P:=Tryz.prog) (g:=g25) (off:=0) (n:=2) (c:=2) (i:=j) a4j hltH.out;rw [Nat.mul_one,Nat.zero_add]at this;exact this _ _)) ?_)
    | ((with_reducible refine a0f 30 ?_);refine a0p (v:=.slice YA ys.length yc) (by kernel_rfl) (a1d rfl (fun w=>by kernel_rfl) rfl (hc.out)) ?_)
    | ((with_reducible refine a0f 32 ?_);refine a0p (v:=.string (mkS ys)) (by kernel_rfl) (b9u rfl rfl hy.out) ?_)
    | (go_at_call 26;(with_reducible refine(cp.out _ hy.out).mono ?_);rintro e v35 ⟨b1,s1,x1,rfl,h1,h2,h3,kk⟩;have P1:=hjd h1;have P2:=hjd h2;have P3:=hjd h3;obtain⟨Bp,bpc,rfl,_⟩:=h1;obtain⟨Sp,spc,rfl,_⟩:=h2;obtain⟨Gp,gpc,rfl,_⟩:=h3;replace hy:=hjd (a1o.a0k hy.out kk);replace KK:=hjd (KK.out.a0g kk);replace hc:=hjd trivial;clear kk)
    | ((with_reducible refine a0f 9 ?_);(refine a0h (o:=⟨some 9,_,_,_,_,_⟩) rfl rfl a2v ?_);intro g9 w9 m9;refine a0a (cs:=#[.slice Bp PB.length bpc,.slice Sp PN.length spc,.slice Gp PG.length gpc]) (o:=⟨none,Op.store 56 (.tmp 9) (.tmp 36),_,_,_,_⟩) a2i rfl (.tmp 9) (.tmp 36) rfl rfl rfl m9.blk rfl rfl (a1v _ _ _ _ _ _ _ _ _) ?_;intro wa b9 k9;have kk:=m9.kept.a0r k9 m9.le;have C9:=hjd b9;replace P1:=hjd (a1o.a0k P1.out kk);replace P2:=hjd (P2.out.a0k kk);replace P3:=hjd (P3.out.a0k kk);replace hy:=hjd (a1o.a0k hy.out kk);replace KK:=hjd (KK.out.a0g kk);clear m9 b9 k9 kk)
    | (go_at_call 27;(with_reducible refine(cq.out _ hy.out).mono ?_);rintro e v40 ⟨b1,s1,x1,rfl,h1,h2,h3,kk⟩;have Q1:=hjd h1;have Q2:=hjd h2;have Q3:=hjd h3;obtain⟨Bq,bqc,rfl,_⟩:=h1;obtain⟨Sq,sqc,rfl,_⟩:=h2;obtain⟨Gq,gqc,rfl,_⟩:=h3;replace C9:=hjd (C9.out.kept kk (by simp));replace P1:=hjd (a1o.a0k P1.out kk);replace P2:=hjd (P2.out.a0k kk);replace P3:=hjd (P3.out.a0k kk);replace hy:=hjd (a1o.a0k hy.out kk);replace KK:=hjd (KK.out.a0g kk);clear kk)
    | ((with_reducible refine a0f 11 ?_);(refine a0h (o:=⟨some 11,_,_,_,_,_⟩) rfl rfl a2v ?_);intro g11 w11 m11;refine a0a (cs:=#[.slice Bq PB.length bqc,.slice Sq PN.length sqc,.slice Gq PG.length gqc]) (o:=⟨none,Op.store 56 (.tmp 11) (.tmp 41),_,_,_,_⟩) a2i rfl (.tmp 11) (.tmp 41) rfl rfl rfl m11.blk rfl rfl (a1v _ _ _ _ _ _ _ _ _) ?_;intro wb b11 k11;have kk:=m11.kept.a0r k11 m11.le;have C11:=hjd b11;replace C9:=hjd (C9.out.kept kk (by simp));replace P1:=hjd (a1o.a0k P1.out kk);replace P2:=hjd (P2.out.a0k kk);replace P3:=hjd (P3.out.a0k kk);replace Q1:=hjd (a1o.a0k Q1.out kk);replace Q2:=hjd (Q2.out.a0k kk);replace Q3:=hjd (Q3.out.a0k kk);replace hy:=hjd (a1o.a0k hy.out kk);replace KK:=hjd (KK.out.a0g kk);clear m11 b11 k11 kk))
   have cs:=hjd (c4t _ _ _ _ _ _ wb P1.out P2.out P3.out Q1.out Q2.out Q3.out hCL.out hPn.out hPg.out);clear cp cq hc;by_cases hE:E=0
   ·subst hE;have hbk:=hjd (hback.out rfl)
    have cy:=hjd (fun u (k:Kept [] wb u)=>(show Calls Tryz.prog 24 #[.agg #[.slice Bp PB.length bpc,.slice Sp PN.length spc,.slice Gp PG.length gpc]] u fun e w'=>∃v',e= .returned v'∧a1o ys v' w'∧Kept [] u w' from by
     have h:=b6k (bd:=PB) (ns:=PN) (gs:=PG) (.slice Bp PB.length bpc) (.slice Sp PN.length spc) (.slice Gp PG.length gpc) u (a1o.a0k P1.out k) (P2.out.a0k k) (P3.out.a0k k) hCL.out hPb.out hPn.out;rw [hbk.out]at h;exact h))
    clear hback;go_wp2_with (first
     | ((with_reducible refine a0f 45 ?_);refine a0p (v:=.bool false) (by kernel_rfl) (c2e rfl rfl rfl) ?_)
     | ((with_reducible refine a0f 47 ?_);refine a0d (cs:=#[.slice Bp PB.length bpc,.slice Sp PN.length spc,.slice Gp PG.length gpc]) (o:=⟨some 47,_,_,_,_,_⟩) a2i (by kernel_rfl) (.tmp 9) rfl rfl C9.out rfl ?_)
     | ((with_reducible refine a0f 48 ?_);refine a0d (cs:=#[.slice Bq PB.length bqc,.slice Sq PN.length sqc,.slice Gq PG.length gqc]) (o:=⟨some 48,_,_,_,_,_⟩) a2i (by kernel_rfl) (.tmp 11) rfl rfl C11.out rfl ?_)
     | (go_at_call 28;(with_reducible refine(cs.out).mono ?_);rintro e v49 ⟨rfl,kk⟩;have KS:=hjd kk;replace C9:=hjd (C9.out.kept kk (by simp));replace hy:=hjd (a1o.a0k hy.out kk);replace KK:=hjd (KK.out.a0g kk);clear kk)
     | ((with_reducible refine a0f 54 ?_);refine a0p (v:=.string (mkS ys)) (by kernel_rfl) (b9u rfl rfl hy.out) ?_)
     | ((with_reducible refine a0f 56 ?_);refine a0p (v:=.bool false) (by kernel_rfl) (c1l rfl rfl rfl) ?_)
     | ((with_reducible refine a0f 62 ?_);refine a0d (cs:=#[.slice Bp PB.length bpc,.slice Sp PN.length spc,.slice Gp PG.length gpc]) (o:=⟨some 62,_,_,_,_,_⟩) a2i (by kernel_rfl) (.tmp 9) rfl rfl C9.out rfl ?_)
     | (go_at_call 24;(with_reducible refine(cy.out _ KS.out).mono ?_);rintro e v63 ⟨x63,rfl,h63,kk⟩;have R63:=hjd h63;replace KK:=hjd (KK.out.a0g kk);clear h63 kk)
     | ((with_reducible refine a0f 64 ?_);refine a0p (v:=.string (mkS ys)) (by kernel_rfl) (b9u rfl rfl R63.out) ?_)
     | ((with_reducible refine a0f 66 ?_);refine a0p (v:=.bool false) (by kernel_rfl) (c1l rfl rfl rfl) ?_))
    go_roundg (2 - (j + 1));case measure=>omega
    case rel=>exact⟨j + 1,by omega,by omega,by go_num,KK⟩
   ·have hEb:(E == 0)=false:=by simpa using hE
    replace hE:=hjd hE;clear hback;go_wp2_with (first
     | ((with_reducible refine a0f 45 ?_);refine a0p (v:=.bool false) (by kernel_rfl) (c2e rfl rfl rfl) ?_)
     | ((with_reducible refine a0f 47 ?_);refine a0d (cs:=#[.slice Bp PB.length bpc,.slice Sp PN.length spc,.slice Gp PG.length gpc]) (o:=⟨some 47,_,_,_,_,_⟩) a2i (by kernel_rfl) (.tmp 9) rfl rfl C9.out rfl ?_)
     | ((with_reducible refine a0f 48 ?_);refine a0d (cs:=#[.slice Bq PB.length bqc,.slice Sq PN.length sqc,.slice Gq PG.length gqc]) (o:=⟨some 48,_,_,_,_,_⟩) a2i (by kernel_rfl) (.tmp 11) rfl rfl C11.out rfl ?_)
     | (go_at_call 28;(with_reducible refine(cs.out).mono ?_);rintro e v49 ⟨rfl,kk⟩;replace hy:=hjd (a1o.a0k hy.out kk);replace KK:=hjd (KK.out.a0g kk);clear kk)
     | ((with_reducible refine a0f 54 ?_);refine a0p (v:=.string (mkS ys)) (by kernel_rfl) (b9u rfl rfl hy.out) ?_)
     | ((with_reducible refine a0f 56 ?_);refine a0p (v:=.bool false) (by kernel_rfl) (c1l rfl rfl rfl) ?_))
    go_roundg (2 - (j + 1));case measure=>omega
    case rel=>exact⟨j + 1,by omega,by omega,by go_num,KK⟩
  ·obtain rfl:j=2:=by omega
   go_wp2_with fail
   go_ret;exact⟨rfl,K.out.a0g KK.out⟩
end Go.Proofs.YtdbngnlpafcogaaGreat
namespace Go.Proofs.YtdbngnlpafcogaaGreat
open Go.ChangeShapes Go.WideShapes Go.ChangeAt Go.RowKit Go.Mem
theorem b7y:∀{l:List (List UInt8)},(∀k∈l,k.length=64)→(l.flatMap bv).length=l.length * 64
 | [],_=>rfl
 | x :: l,h=>by
   rw [List.flatMap_cons,List.length_append,b7y fun k hk=>h k (List.mem_cons_of_mem _ hk),List.length_cons];have:(bv x).length=64:=by simpa using h x (by simp)
   omega
section
variable {H:Type} {enc:TypeId × Value→H} {P:Program} {w:World} {base:Nat} {spare:Nat→Bool} {held:Bool}
theorem d0l{e te:TypeId}(he:P.underlying e=some (.array 64 te))(h3:P.underlying te=some (.int .u8))(c3:P.cellsOf te=1){fuel:Nat}{cs:List Value}{y:DataW H × List MemPlace}(hn:cs.length=64)
 (h:DataW.trod enc P w base spare held fuel e cs=some y):∃bs:List UInt8,cs=bv bs∧bs.length=64:=by
 cases fuel with
 | zero=>simp [DataW.trod]at h
 | succ m=>
   unfold DataW.trod at h;rw [he]at h;simp only [hn,c3,Nat.mul_one]at h;have each:∀i (hi:i < 64),∃b:UInt8,cs[i]'(by omega)=a1z b:=by
    intro i hi
    cases hq:DataW.trod enc P w base spare held m te ((cs.drop i).take 1)with
    | none=>
      have:=mapM_none_of (f:=fun i=>DataW.trod enc P w base spare held m te ((cs.drop i).take 1)) (l:=List.range 64) (x:=i) (by simpa using hi) hq;rw [this]at h;simp at h
    | some y=>
      have e1:(cs.drop i).take 1= [cs[i]'(by omega)]:=by
       have:=List.drop_eq_getElem_cons (l:=cs) (i:=i) (by omega);rw [this];rfl
      rw [e1]at hq;exact e5f h3 hq
   refine⟨(List.range 64).map fun i=>if hi:i < 64 then(each i hi).choose else 0,?_,by simp⟩;apply List.ext_getElem
   ·simp [hn]
   ·intro i h1 h2;have hi:i < 64:=by omega
    simp only [bv,List.map_map,List.getElem_map,List.getElem_range,Function.comp_apply,dif_pos hi];exact(each i hi).choose_spec
theorem c2x:∀(l:List (List UInt8)) (_:∀k∈l,k.length=64) (j:Nat) (u:Value),(l.flatMap bv)[j]?=some u→∃(q r:Nat) (h:q < l.length),j=q * 64 + r∧(bv l[q])[r]?=some u
 | [],_,_,_,h=>by simp at h
 | x :: l,hk,j,u,h=>by
   have e:(x :: l).flatMap bv=bv x ++ l.flatMap bv:=by simp
   have hl:(bv x).length=64:=by simpa using hk x (by simp)
   rw [e]at h;by_cases hj:j < 64
   ·rw [List.getElem?_append_left (by omega)]at h;exact⟨0,j,by simp,by omega,h⟩
   ·rw [List.getElem?_append_right (by omega),hl]at h;obtain⟨q,r,hq,he,hu⟩:=c2x l (fun k hm=>hk k (List.mem_cons_of_mem _ hm)) (j - 64) u h;exact⟨q + 1,r,by simp;omega,by omega,by simpa using hu⟩
theorem c5s{t e te:TypeId}(ht:P.underlying t=some (.slice e))(he:P.underlying e=some (.array 64 te))(hc:P.cellsOf e=64)(h3:P.underlying te=some (.int .u8))(c3:P.cellsOf te=1){v:Value}{d:DataW H}{p:List MemPlace}
 (h:∃fuel,DataW.trod enc P w base spare held fuel t v.cells.toList=some (d,p)) (hv:∃A n c,v= .slice A n c) :
 ∃keys:List (List UInt8),Rd w 64 v keys.length (keys.flatMap bv)∧(keys= []∧d= .nil∨∃el sp,d= .slice el sp∧el.length=keys.length)∧keys.length≤9223372036854775807∧∀k∈keys,k.length=64:=by
 obtain⟨A,n,c,rfl⟩:=hv;obtain⟨fuel,hf⟩:=h;rcases DataW.trod_slice ht hf with⟨hcs,hx⟩ | ⟨a,len,cap,elems,rest,m,_,hcs,hx,_,hl,hm,hlen,hel,_,_⟩
 ·simp [Value.cells]at hcs;obtain⟨rfl,rfl,rfl⟩:=hcs;exact⟨[],Rd.nil _ _,.inl ⟨rfl,by injection hx⟩,by simp,by simp⟩
 ·simp [Value.cells]at hcs;obtain⟨rfl,rfl,rfl⟩:=hcs;have each:∀i,∃k:List UInt8,k.length=64∧(i < n→∀(j:Nat) u,(bv k)[j]?=some u→w.cell? ((a.add (i * 64)).add j)=some u):=by
   intro i;by_cases hi:i < n
   ·have hb:=hel i hi;have hil:i < elems.length:=by omega
    rw [hc,List.getElem?_eq_getElem hil,Option.bind_eq_some_iff]at hb;obtain⟨cs,hcs,hy⟩:=hb;obtain⟨_,hcl,hcc⟩:=World.cells?_some hcs;obtain⟨bs,rfl,hbl⟩:=d0l he h3 c3 hcl hy;refine⟨bs,hbl,fun _ j u hu=>?_⟩;have hj:j < (bv bs).length:=(List.getElem?_eq_some_iff.1 hu).1;have:=hcc j (by simpa [hbl]using hj);rw [this];exact hu
   ·exact⟨a0m 64,by simp,fun h=>absurd h hi⟩
  obtain⟨f,hf2⟩:=Classical.axiomOfChoice each;have hlen2:((List.range n).map f).length=n:=by simp
  have hkl:∀k∈(List.range n).map f,k.length=64:=by
   intro k hk;obtain⟨i,_,rfl⟩:=List.mem_map.1 hk;exact(hf2 i).1
  refine⟨(List.range n).map f,⟨_,_,by rw [hlen2],by rw [b7y hkl],by rw [hlen2];exact hl,fun hn=>?_⟩,.inr ⟨_,_,by injection hx,by simp [hlen]⟩,?_,hkl⟩
  ·rw [hlen2]at hn;have hb0:(bv (f 0))[0]?=some ((bv (f 0))[0]'(by simp [(hf2 0).1])):=List.getElem?_eq_getElem _;have k0:=(hf2 0).2 hn 0 _ hb0;obtain⟨b,o,sp⟩:=a;have hsp:sp=none:=by
    cases sp with
    | none=>rfl
    | some k=>
      simp only [Addr.add,Nat.zero_mul,if_true]at k0;unfold World.cell? at k0;split at k0 <;> simp at k0
   subst hsp;refine⟨b,o,rfl,fun j u hu=>?_⟩;obtain⟨q,r,hq,rfl,hu2⟩:=c2x _ hkl _ _ hu;rw [hlen2]at hq;simp only [List.getElem_map,List.getElem_range]at hu2;have:=(hf2 q).2 hq r u hu2;rw [a2w,a2w]at this
   rwa [←Nat.add_assoc]
  ·rw [hlen2];have:c≤9223372036854775807:=by simpa [maxLen]using hm
   omega
theorem c9s{t e:TypeId}(ht:P.underlying t=some (.slice e))(he:P.underlying e=some (.int .i64))(hc:P.cellsOf e=1){v:Value}{d:DataW H}{p:List MemPlace}
 (h:∃fuel,DataW.trod enc P w base spare held fuel t v.cells.toList=some (d,p)) (hv:∃A n c,v= .slice A n c) :
 ∃ls:List Int,Rd w 1 v ls.length (iv ls)∧(ls= []∧d= .nil∨∃el sp,d= .slice el sp∧el.length=ls.length):=by
 obtain⟨A,n,c,rfl⟩:=hv;obtain⟨fuel,hf⟩:=h;rcases open_ints ht he hc hf with⟨hcs,hx⟩ | ⟨x,l,cp,zs,hcs,_,hl,hm,hz,hx,hcell,hwz⟩
 ·simp [Value.cells]at hcs;obtain⟨rfl,rfl,rfl⟩:=hcs;exact⟨[],Rd.nil _ _,.inl ⟨rfl,by injection hx⟩⟩
 ·simp [Value.cells]at hcs;obtain⟨rfl,rfl,rfl⟩:=hcs;have hlz:n≤zs.length:=by rw [hz];split <;> omega
  have hlen:(zs.take n).length=n:=by simp;omega
  refine⟨zs.take n,?_,.inr ⟨_,_,by injection hx,by simp [ChangeShapes.lits]⟩⟩;rw [hlen];refine⟨_,_,rfl,by simp [iv];omega,hl,fun hn=>?_⟩;have h0:=hcell 0 (by omega);obtain⟨b,o,sp⟩:=x;have hsp:sp=none:=by
   cases sp with
   | none=>rfl
   | some k=>
     simp only [Addr.add,if_true]at h0;unfold World.cell? at h0;split at h0 <;> simp at h0
  subst hsp;refine⟨b,o,rfl,fun j u hu=>?_⟩;have hj:j < n:=by
   rcases Nat.lt_or_ge j n with h | h
   ·exact h
   ·rw [List.getElem?_eq_none (by simp [iv];omega)]at hu;cases hu
  have hjz:j < zs.length:=by omega
  have hc2:=hcell j hjz;rw [a2w]at hc2;rw [hc2];simp only [iv,List.getElem?_map,List.getElem?_take,hj,if_true,List.getElem?_eq_getElem hjz,Option.map_some,Option.some.injEq]at hu;rw [←hu];simp [List.getD_eq_getElem?_getD,hjz]
theorem b9i{t e:TypeId}(ht:P.underlying t=some (.slice e)){fuel:Nat}{u:Value}{y:DataW H × List MemPlace}(h:DataW.trod enc P w base spare held fuel t [u]=some y):∃A n c,u= .slice A n c:=by
 rcases DataW.trod_slice ht h with⟨hcs,_⟩ | ⟨a,len,cap,_,_,_,_,hcs,_⟩
 ·simp at hcs;exact⟨_,_,_,hcs⟩
 ·simp at hcs;exact⟨_,_,_,hcs⟩
theorem c0f{α:Type}{xs:List α}{d:DataW H}(h:xs= []∧d= .nil∨∃el sp,d= .slice el sp∧el.length=xs.length):xs.length≤Rows.uptoBulk d:=by
 rcases h with⟨rfl,_⟩ | ⟨el,sp,rfl,he⟩
 ·simp
 ·have h3:=bulks.b6d el sp;have h4:=bulks.length_le el;omega
theorem d3k{t tb ts tg eb es eg te:TypeId}{F0 F1 F2:Field}(ht:P.underlying t=some (.struct #[F0,F1,F2]))(q0:F0.offset=0)(q1:F1.offset=1)(q2:F2.offset=2)(y0:F0.type=tb)(y1:F1.type=ts)(y2:F2.type=tg)
 (hc:P.cellsOf t=3) (cb:P.cellsOf tb=1) (cs':P.cellsOf ts=1) (cg:P.cellsOf tg=1)
 (hb:P.underlying tb=some (.slice eb)) (hb2:P.underlying eb=some (.int .u8)) (hb3:P.cellsOf eb=1) (hs:P.underlying ts=some (.slice es)) (hs2:P.underlying es=some (.int .i64)) (hs3:P.cellsOf es=1)
 (hg:P.underlying tg=some (.slice eg)) (hg2:P.underlying eg=some (.array 64 te)) (hg3:P.cellsOf eg=64) (hg4:P.underlying te=some (.int .u8)) (hg5:P.cellsOf te=1) {v:Value} {d:DataW H} {p:List MemPlace}
 (h:∃fuel,DataW.trod enc P w base spare held fuel t v.cells.toList=some (d,p)) (hv:∃cs,v= .agg cs∧cs.size=P.cellsOf t) :
 ∃(bd:List UInt8) (ns:List Int) (gs:List (List UInt8)) (bw sv gv:Value),v= .agg #[bw,sv,gv]∧a1o bd bw w∧Rd w 1 sv ns.length (iv ns)∧Rd w 64 gv gs.length (gs.flatMap bv)∧(∀g∈gs,g.length=64)∧bd.length + ns.length + gs.length≤Rows.uptoBulk d:=by
 obtain⟨cs,rfl,hsz⟩:=hv;obtain⟨fuel,hf⟩:=h;obtain⟨xs,m2,_,hxx,_,hxl,hff⟩:=DataW.trod_struct ht hf;have hcl:cs.toList.length=3:=by simpa [hc]using hsz
 have hce:(Value.agg cs).cells.toList=cs.toList:=rfl;rw [hce]at hff;obtain⟨cl⟩:=cs
 match cl,hcl with
 | [u0,u1,u2],_=>
 match xs,hxl with
 | [z0,z1,z2],_=>
 have g0:=hff 0 F0 rfl;have g1:=hff 1 F1 rfl;have g2:=hff 2 F2 rfl;rw [y0,cb,q0]at g0;rw [y1,cs',q1]at g1;rw [y2,cg,q2]at g2;simp at g0 g1 g2;have v0:=b9i hb g0;have v1:=b9i hs g1;have v2:=b9i hg g2;obtain⟨bd,r0,s0,_⟩:=b7z (d:=z0.1) (p:=z0.2) (v:=u0) hb hb2 hb3 ⟨m2,by obtain⟨A,n,c,rfl⟩:=v0;exact g0⟩ v0;obtain⟨ns,r1,s1⟩:=c9s (d:=z1.1) (p:=z1.2) (v:=u1) hs hs2 hs3 ⟨m2,by obtain⟨A,n,c,rfl⟩:=v1;exact g1⟩ v1;obtain⟨gs,r2,s2,_,s3⟩:=c5s (d:=z2.1) (p:=z2.2) (v:=u2) hg hg2 hg3 hg4 hg5 ⟨m2,by obtain⟨A,n,c,rfl⟩:=v2;exact g2⟩ v2;refine⟨bd,ns,gs,u0,u1,u2,rfl,r0,r1,r2,s3,?_⟩;have e:d= .agg [z0.1,z1.1,z2.1]:=by
  have:=congrArg Prod.fst hxx;simpa using this
 have b0:=c0f s0;have b1:=c0f s1;have b2:=c0f s2;rw [e];simp only [Rows.uptoBulk,Rows.uptoBulkAll];omega
end
theorem c0c(bw sv gv:Value)(bd:List UInt8)(ns:List Int)(gs:List (List UInt8))(bv0:Value)(bs:List UInt8)(w:World)(hb:a1o bd bw w)(hs:Rd w 1 sv ns.length (iv ns))(hg:Rd w 64 gv gs.length (gs.flatMap bv))(hl:∀g∈gs,g.length=64)(hk:bd.length + ns.length + gs.length≤1048576)
 (hr:Rd w 1 bv0 bs.length (bv bs)) (hbs:bs.length≤1048576) :
 Calls Tryz.prog 6 #[.agg #[bw,sv,gv],bv0] w fun e w'=>e= .returned (.bool true)∧Kept [] w w':=
 b7g bw sv gv bv0 w hb hs hg hl (by omega) (by omega) hr hbs c5b
end Go.Proofs.YtdbngnlpafcogaaGreat
