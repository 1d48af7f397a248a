/-
  Certificates as bytes: what the program reads bytes as (Parse).
-/
import Derived.Test.YtdbngnlpafcogaaGreatZcJ07
set_option maxRecDepth 100000
namespace Go.Proofs.YtdbngnlpafcogaaGreat
open Go.RowKit Go.Mem Go.Txt
theorem d5e{u u2:World}{r:Nat}{s:St}{e:TypeId}{z n:Nat}{v:Value}{xs:List Value}(h:a7n u r s)(ho:Ow u e z v n xs)(h1:5≠e)(h2:e≠188)(hk:Kept v.ownBlock.toList u u2):a7n u2 r s:=by
 obtain⟨x,hb,hr⟩:=h;exact⟨x,hb.kept hk (fun h=>ho.a2r hb h2 (Option.mem_toList.1 h)),hr.kept hk (fun g hg hm=>hr.ne_ ho h1 g hg (Option.mem_toList.1 hm))⟩
structure CP (w:World) (r g2 g5:Nat) (s:St) (bd:List UInt8) (ns:List Int) (gs:List (List UInt8)) (bw c1 c2 sv gv:Value) (u:World):Prop where
 k:Kept [] w u
 rd:a7n u r s
 fr:w.heap.size≤r
 b:Blk u g5 56 #[bw,c1,c2]
 fg:w.heap.size≤g5
 z:Blk u g2 56 #[.slice none 0 0,.slice none 0 0,.slice none 0 0]
 fz:w.heap.size≤g2
 nz:g2≠g5
 m:Ow u 5 1 bw bd.length (bv bd)
 s:Ow u 3 1 sv ns.length (iv ns)
 sf:∀k,sv.ownBlock=some k→w.heap.size≤k
 g:Ow u 32 64 gv gs.length (gs.flatMap bv)
 gf:∀k,gv.ownBlock=some k→w.heap.size≤k
section
variable {w u u2:World} {r g2 g5:Nat} {s s':St} {bd:List UInt8} {ns ns':List Int} {gs gs':List (List UInt8)} {bw c1 c2 d1 d2 sv gv x:Value}
theorem CP.a0k(h:CP w r g2 g5 s bd ns gs bw c1 c2 sv gv u)(hk:Kept [] u u2):CP w r g2 g5 s bd ns gs bw c1 c2 sv gv u2:=
 ⟨h.k.a0g hk,h.rd.a0k hk,h.fr,h.b.kept hk (by simp),h.fg,h.z.kept hk (by simp),h.fz,h.nz,h.m.a0k hk,h.s.a0k hk,h.sf,h.g.a0k hk,h.gf⟩
theorem CP.rdr(h:CP w r g2 g5 s bd ns gs bw c1 c2 sv gv u)(hr:a7n u2 r s')(hk:Kept [r] u u2):CP w r g2 g5 s' bd ns gs bw c1 c2 sv gv u2:=by
 obtain⟨v,hb,_⟩:=id h.rd;have on:∀{e:TypeId} {z n:Nat} {y:Value} {xs:List Value},Ow u e z y n xs→e≠188→∀k,y.ownBlock=some k→k∉[r]:=fun ho he k e hm=>ho.a2r hb he (by rw [e,List.mem_singleton.1 hm])
 exact⟨h.k.a0r hk h.fr,hr,h.fr,h.b.kept hk (by simpa using h.b.ne_ hb (by decide)),h.fg,h.z.kept hk (by simpa using h.z.ne_ hb (by decide)),h.fz,h.nz,h.m.kept hk (on h.m (by decide)),h.s.kept hk (on h.s (by decide)),h.sf,h.g.kept hk (on h.g (by decide)),h.gf⟩
theorem CP.c2d(h:CP w r g2 g5 s bd ns gs bw c1 c2 sv gv u)(ho:Ow u2 3 1 x ns'.length (iv ns'))(hk:Kept sv.ownBlock.toList u u2)(hn:x.ownBlock=sv.ownBlock∨x.ownBlock=some u.heap.size):CP w r g2 g5 s bd ns' gs bw c1 c2 x gv u2:=
 ⟨h.k.fresh hk (fun k hk=>h.sf k (Option.mem_toList.1 hk)),d5e h.rd h.s (by decide) (by decide) hk,h.fr,h.b.kept hk (fun hm=>h.s.a2r h.b (by decide) (Option.mem_toList.1 hm)),h.fg,h.z.kept hk (fun hm=>h.s.a2r h.z (by decide) (Option.mem_toList.1 hm)),h.fz,h.nz,h.m.kept hk (fun k e hm=>h.m.ne_ h.s (by decide) k e (Option.mem_toList.1 hm)),ho,b4r h.sf h.k.size (d9h hn),h.g.kept hk (fun k e hm=>h.g.ne_ h.s (by decide) k e (Option.mem_toList.1 hm)),h.gf⟩
theorem CP.d7w(h:CP w r g2 g5 s bd ns gs bw c1 c2 sv gv u)(ho:Ow u2 32 64 x gs'.length (gs'.flatMap bv))(hk:Kept gv.ownBlock.toList u u2)(hn:x.ownBlock=gv.ownBlock∨x.ownBlock=some u.heap.size):CP w r g2 g5 s bd ns gs' bw c1 c2 sv x u2:=
 ⟨h.k.fresh hk (fun k hk=>h.gf k (Option.mem_toList.1 hk)),d5e h.rd h.g (by decide) (by decide) hk,h.fr,h.b.kept hk (fun hm=>h.g.a2r h.b (by decide) (Option.mem_toList.1 hm)),h.fg,h.z.kept hk (fun hm=>h.g.a2r h.z (by decide) (Option.mem_toList.1 hm)),h.fz,h.nz,h.m.kept hk (fun k e hm=>h.m.ne_ h.g (by decide) k e (Option.mem_toList.1 hm)),h.s.kept hk (fun k e hm=>h.s.ne_ h.g (by decide) k e (Option.mem_toList.1 hm)),h.sf,ho,b4r h.gf h.k.size (d9h hn)⟩
theorem CP.st(h:CP w r g2 g5 s bd ns gs bw c1 c2 sv gv u)(hb:Blk u2 g5 56 #[bw,d1,d2])(hk:Kept [g5] u u2):CP w r g2 g5 s bd ns gs bw d1 d2 sv gv u2:=by
 have on:∀{e:TypeId} {z n:Nat} {y:Value} {xs:List Value},Ow u e z y n xs→e≠56→∀k,y.ownBlock=some k→k∉[g5]:=fun ho he k e hm=>ho.a2r h.b he (by rw [e,List.mem_singleton.1 hm])
 obtain⟨v,hrb,_⟩:=id h.rd;exact⟨h.k.a0r hk h.fg,h.rd.kept hk (by simpa using hrb.ne_ h.b (by decide)) (fun k hm=>.inr ⟨56,#[bw,c1,c2],by rw [List.mem_singleton.1 hm];exact h.b,by decide⟩),h.fr,hb,h.fg,h.z.kept hk (by simpa using h.nz),h.fz,h.nz,h.m.kept hk (on h.m (by decide)),h.s.kept hk (on h.s (by decide)),h.sf,h.g.kept hk (on h.g (by decide)),h.gf⟩
end
theorem a5a(acc:List Shr)(p:Shr):(acc ++ [p]).map (·.1)=acc.map (·.1) ++ [p.1]:=by simp
theorem a5b(acc:List Shr)(p:Shr):(acc ++ [p]).map (·.2)=acc.map (·.2) ++ [p.2]:=by simp
set_option maxHeartbeats 6400000 in
theorem d0y{bs:List UInt8}(v:Value)(w:World)(hr:Rd w 1 v bs.length (bv bs))(hb:bs.length≤140737488351232) :
 Calls Tryz.prog 26 #[v] w fun e w'=>∃b2 s2 g2,e= .returned (.tuple #[.agg #[b2,s2,g2],.int .i64 (a3i bs).2])∧a1o (a3i bs).1.bd b2 w'∧Rd w' 1 s2 (a3i bs).1.ns.length (iv (a3i bs).1.ns)∧Rd w' 64 g2 (a3i bs).1.gs.length ((a3i bs).1.gs.flatMap bv)∧Kept [] w w':=by
 have cn:=hjd (fun u h=>e7e v bs u h (by omega));have H:=hjd hr;obtain⟨VA,vc,rfl,_⟩:=id hr;clear hr hb;have HP:=hjd (show a3i bs=if a8t (a2p (0,bs)).2.2≠0 then(⟨[],[],[]⟩,a8t (a2p (0,bs)).2.2)else if (a2p (0,bs)).2.1=true then(⟨[],[],[]⟩,13)else((a2p (0,bs)).1,0)from rfl);have HR:=hjd (show a2p (0,bs)=(⟨(a2a (0,bs)).1,(a2n (a4l 65536 (a2a (0,bs)).2).1 (a4l 65536 (a2a (0,bs)).2).2).1.map (·.1),(a2n (a4l 65536 (a2a (0,bs)).2).1 (a4l 65536 (a2a (0,bs)).2).2).1.map (·.2)⟩,(a2n (a4l 65536 (a2a (0,bs)).2).1 (a4l 65536 (a2a (0,bs)).2).2).2.1,(a2n (a4l 65536 (a2a (0,bs)).2).1 (a4l 65536 (a2a (0,bs)).2).2).2.2)from rfl);have HO1:=hjd (show okS (a2a (0,bs)).2 from b1w (b2y (m:=1048576) (show okS (0,bs)from .inl rfl)));generalize hPU:a3i bs=PU at *;replace hPU:=hjd hPU;generalize a2p (0,bs)=RC at *;have cb:=hjd (fun W r (h:a7n W r (0,bs))=>c9l r (0,bs) W h);go_enter Tryz.func26,Tryz.ntmps26;go_upto_region 3 with(first
  | ((with_reducible refine a0f 2 ?_);(refine a0h (o:=⟨some 2,_,_,_,_,_⟩) rfl rfl a2v ?_);intro g2 w2 m2;have Z:=hjd (show Blk w2 g2 56 #[.slice none 0 0,.slice none 0 0,.slice none 0 0]from m2.blk);have LZ:=hjd m2.le;have K:=hjd m2.kept;clear m2)
  | (go_at_call 68;(with_reducible refine(cn.out _ (H.out.a0k K.out)).mono ?_);rintro e v11 ⟨r,rfl,h11,k11,l11⟩;have R:=hjd h11;replace Z:=hjd (Z.out.kept k11 (by simp));have LR:=hjd (Nat.le_trans K.out.size l11);replace K:=hjd (K.out.a0g k11);clear h11 k11 l11)
  | (go_at_call 82;(with_reducible refine(cb.out _ r R.out).mono ?_);rintro e v13 ⟨x13,rfl,h13,_,r13,k13⟩;have M:=hjd h13;obtain⟨MA,mc,rfl,_⟩:=h13.shape;replace Z:=hjd (Z.out.kept k13 (by obtain⟨y,hb,_⟩:=R.out;simpa using Z.out.ne_ hb (by decide)));replace R:=hjd r13;replace K:=hjd (K.out.fresh k13 (by simpa using LR.out));clear h13 r13 k13)
  | ((with_reducible refine a0f 14 ?_);refine a3x (v:=.slice MA (a2a (0,bs)).1.length mc) (cs:=#[.slice MA (a2a (0,bs)).1.length mc,.slice none 0 0,.slice none 0 0]) rfl 0 (.tmp 13) rfl rfl (by kernel_rfl) ?_)
  | ((with_reducible refine a0f 5 ?_);(refine a0h (o:=⟨some 5,_,_,_,_,_⟩) rfl rfl a2v ?_);intro g5 w5 m5;refine a0a (cs:=#[.slice MA (a2a (0,bs)).1.length mc,.slice none 0 0,.slice none 0 0]) (o:=⟨none,Op.store 56 (.tmp 5) (.tmp 14),_,_,_,_⟩) a2i rfl (.tmp 5) (.tmp 14) rfl rfl rfl m5.blk rfl rfl (a1v _ _ _ _ _ _ _ _ _) ?_;intro wb b5 k5;have kk:=m5.kept.a0r k5 m5.le
     have C:=hjd (show CP w r g2 g5 (a2a (0,bs)).2 (a2a (0,bs)).1 [] [] (.slice MA (a2a (0,bs)).1.length mc) (.slice none 0 0) (.slice none 0 0) (.slice none 0 0) (.slice none 0 0) wb from
      ⟨K.out.a0g kk,R.out.a0k kk,LR.out,b5,Nat.le_trans K.out.size m5.le,Z.out.kept kk (by simp),LZ.out,by have:=Z.out.lt;have:=m5.le;omega,M.out.a0k kk,Ow.nil _ _ _,(fun k h=>by cases h),Ow.nil _ _ _,(fun k h=>by cases h)⟩)
     clear m5 b5 k5 kk M R K Z))
 generalize (a2a (0,bs)).1=bd at *;generalize (a2a (0,bs)).2=s1 at *;have HO:=hjd (b2y (m:=65536) HO1.out);have HN:=hjd (a9k 65536 s1);have HL:=hjd (Nat.le_trans (b1q (a4l 65536 s1).1 (a4l 65536 s1).2) (a9k 65536 _));go_wp2_with (first
  | (go_at_call 69;(with_reducible refine(d6y r _ _ C.out.rd).mono ?_);rintro e v16 ⟨rfl,h16,k16⟩;replace C:=hjd (C.out.rdr h16 k16);clear h16 k16))
 generalize (a4l 65536 s1).1=N at *;generalize (a4l 65536 s1).2=s0 at *;generalize hPA:a2n N s0=PA at *;replace hPA:=hjd hPA;go_loopg [6,7] N (fun f x6 x7 wk=>∃(s:St) (acc:List Shr) (fm:Bool) (sv gv:Value),f≤65536∧x7= .int .i64 (f:Int)∧x6= .bool fm∧Hid (okS s)∧Hid (CP w r g2 g5 s bd (acc.map (·.1)) (acc.map (·.2)) (.slice MA bd.length mc) sv gv sv gv wk)∧Hid (PA=(acc ++ (a2n f s).1,fm || (a2n f s).2.1,(a2n f s).2.2)));case atStart=>exact⟨s0,[],false,_,_,HN.out,rfl,rfl,HO,C,hjd (by rw [←hPA.out];simp)⟩
 case round=>
  obtain⟨s,acc,fm,sv,gv,hfb,rfl,rfl,hO,hC,hE⟩:=hrel;clear HO C;obtain⟨SV,sc1,rfl,e1⟩:=hC.out.s.shape;obtain⟨GV,gc1,rfl,e2⟩:=hC.out.g.shape;clear e1 e2;rcases b8x hO.out with⟨h0,hd⟩ | ⟨h0,hd⟩ | ⟨h0,hd⟩ | ⟨h0,hd⟩
  ·by_cases hz:gk=0
   ·subst hz;replace hE:=hjd (show PA=(acc,fm,s)from by rw [hE.out];simp [a2n]);replace HR:=hjd (show RC=(⟨bd,PA.1.map (·.1),PA.1.map (·.2)⟩,PA.2.1,PA.2.2)from HR.out);replace h0:=hjd h0
    cases fm with
    | true=>
      have e:=hjd (show PU=(⟨[],[],[]⟩,13)from by rw [HP.out,HR.out,hE.out];simp [hd]);go_wp2_with (first
       | (go_at_call 70;(with_reducible refine(a4m r _ _ hC.out.rd).mono ?_);rintro e v ⟨rfl,rfl⟩)
       | ((with_reducible refine a0f 61 ?_);refine a0y (cs:=#[.slice none 0 0,.slice none 0 0,.slice none 0 0]) rfl rfl (by kernel_rfl) ?_)
       | (refine a0a (cs:=#[.slice none 0 0,.slice none 0 0,.slice none 0 0]) (o:=⟨none,Op.store 56 (.tmp 2) (.tmp 61),_,_,_,_⟩) a2i rfl (.tmp 2) (.tmp 61) rfl rfl rfl hC.out.z rfl rfl (a1v _ _ _ _ _ _ _ _ _) ?_;intro wz bz kz))
      rw [e.out];exact a1j a2i rfl rfl bz rfl rfl ⟨_,_,_,rfl,Rd.nil _ _,Rd.nil _ _,Rd.nil _ _,hC.out.k.a0r kz hC.out.fz⟩
    | false=>
      have e:=hjd (show PU=(⟨bd,acc.map (·.1),acc.map (·.2)⟩,0)from by rw [HP.out,HR.out,hE.out];simp [hd]);go_wp2_with (first
       | (go_at_call 70;(with_reducible refine(a4m r _ _ hC.out.rd).mono ?_);rintro e v ⟨rfl,rfl⟩)
       | ((with_reducible refine a0f 62 ?_);refine a0d (cs:=#[.slice MA bd.length mc,.slice SV (acc.map (·.1)).length sc1,.slice GV (acc.map (·.2)).length gc1]) (o:=⟨some 62,_,_,_,_,_⟩) a2i (by kernel_rfl) (.tmp 5) rfl rfl hC.out.b rfl ?_)
       | (refine a0a (cs:=#[.slice MA bd.length mc,.slice SV (acc.map (·.1)).length sc1,.slice GV (acc.map (·.2)).length gc1]) (o:=⟨none,Op.store 56 (.tmp 2) (.tmp 62),_,_,_,_⟩) a2i rfl (.tmp 2) (.tmp 62) rfl rfl rfl hC.out.z rfl rfl (a1v _ _ _ _ _ _ _ _ _) ?_;intro wz bz kz))
      rw [e.out];have on:∀{e:TypeId} {z n:Nat} {y:Value} {xs:List Value},Ow _ e z y n xs→e≠56→∀k,y.ownBlock=some k→k∉[g2]:=fun ho he k e hm=>ho.a2r hC.out.z he (by rw [e,List.mem_singleton.1 hm])
      exact a1j a2i rfl rfl bz rfl rfl ⟨_,_,_,rfl,Rd.a6w (hC.out.m.kept kz (on hC.out.m (by decide))),Rd.a6w (hC.out.s.kept kz (on hC.out.s (by decide))),Rd.a6w (hC.out.g.kept kz (on hC.out.g (by decide))),hC.out.k.a0r kz hC.out.fz⟩
   ·obtain⟨m,rfl⟩:∃m,gk=m + 1:=⟨gk - 1,by omega⟩;have hE2:=hjd (show PA=(acc ++ (a2n (m + 1) s).1,fm || (a2n (m + 1) s).2.1,(a2n (m + 1) s).2.2)from hE.out);rw [a7m h0]at hE2;have OB:=hjd (b5z hO.out);have cB:=hjd (fun W (h:a7n W r s)=>b0v r s W h);have lB:=b6j s;generalize a9r s=Bn at *;have OD:=hjd (c0l (n:=64) OB.out);have LD:=hjd (a6x 64 Bn.2);have cD:=hjd (fun W (h:a7n W r Bn.2)=>d6h r Bn.2 W h);generalize a8q 64 Bn.2=D at *;clear hO hE;replace h0:=hjd h0;have hpos:(0:Int) < (m:Int) + 1:=by omega
    have hal:=hjd (show acc.length≤65536 from by
     have:=HL.out;rw [hE2.out]at this;simp at this;omega)
    have hal1:=hjd (show(acc.map (·.1)).length≤65536 from by rw [List.length_map];exact hal.out);have hal2:=hjd (show(acc.map (·.2)).length≤65536 from by rw [List.length_map];exact hal.out)
    cases fm with
    | true=>
      go_upto_region 9 with(first
       | (go_at_call 70;(with_reducible refine(a4m r _ _ hC.out.rd).mono ?_);rintro e v ⟨rfl,rfl⟩)
       | (go_at_call 72;(with_reducible refine(cB.out _ hC.out.rd).mono ?_);rintro e v32 ⟨rfl,h32,k32⟩;replace hC:=hjd (hC.out.rdr h32 k32);clear h32 k32))
      generalize hns:acc.map (·.1)=ns at *;generalize hgs:acc.map (·.2)=gs at *;replace hns:=hjd hns;replace hgs:=hjd hgs;replace hC:=hjd (hC.out.a0k (Kept.refl [] _).drew);refine Txt.a6k [1,7] (fun u=>Blk u g5 56 #[.slice MA bd.length mc,.slice SV ns.length sc1,.slice GV gs.length gc1]) [_,_,_,_,_,_,_,_,_,_,_,_,_] [_,_,_] rfl [[_,_,_,_,_],[_],[_,_,_,_],[_],[_],[_]] (by kernel_rfl) (by kernel_rfl) (by kernel_rfl) (by kernel_rfl) (by kernel_rfl) (by decide) rfl hC.out.b (Txt.a0e ?_);go_wp2_with (first
       | ((with_reducible refine a0f 39 ?_);refine a0p (v:=.slice SV ns.length sc1) (by kernel_rfl) (a1d rfl (fun w=>by kernel_rfl) rfl (hC.out.b.cell 1)) ?_)
       | ((with_reducible refine a0f 42 ?_);(refine a1a (o:=⟨some 42,_,_,_,_,_⟩) (v0:=.int .i64 (wrap64 (Bn.1:Int))) (cells:=#[.int .i64 (wrap64 (Bn.1:Int))]) rfl a4d rfl rfl (by decide) rfl rfl ?_);intro gm wm mm;have Rm:=hjd (a4x (cells:=[.int .i64 (wrap64 (Bn.1:Int))]) mm.blk rfl);replace hC:=hjd (hC.out.a0k mm.kept);clear mm))
      refine⟨rfl,hC.out.b,Txt.a0e ?_⟩;go_wp2_with (first
       | (at_builtin;refine a1q a4d rfl (.tmp 39) (.tmp 42) rfl rfl (xs:=iv ns) (n:=ns.length) (m:=1) (news:=[.int .i64 (wrap64 (Bn.1:Int))]) hC.out.s rfl Rm.out (by intro u hu;rw [List.mem_singleton.1 hu];rfl) (by have:=hal1.out;omega) (by have:=hal1.out;omega) ?_;intro x4 w4 o4 k4 b4;have o4':Ow w4 3 1 x4 (ns ++ [(wrap64 (Bn.1:Int))]).length (iv (ns ++ [(wrap64 (Bn.1:Int))])):=by simpa [iv]using o4
          have one4:=hjd (a4w o4);replace hC:=hjd (hC.out.c2d o4' k4 b4);clear o4 o4' k4 b4 Rm))
      refine⟨rfl,hC.out.b,Txt.a0e ?_⟩;go_wp2_with (first
       | ((with_reducible refine a0f 45 ?_);refine a0p (v:=.slice GV gs.length gc1) (by kernel_rfl) (a1d rfl (fun w=>by kernel_rfl) rfl (hC.out.b.cell 2)) ?_)
       | (go_at_call 73;(with_reducible refine(cD.out _ hC.out.rd).mono ?_);rintro e v47 ⟨rfl,h47,k47⟩;replace hC:=hjd (hC.out.rdr h47 k47);clear h47 k47))
      refine⟨rfl,hC.out.b,Txt.a0e ?_⟩;go_wp2_with (first
       | ((with_reducible refine a0f 48 ?_);(refine a1a (o:=⟨some 48,_,_,_,_,_⟩) (v0:=ab D.1) (cells:=(bv D.1).toArray) rfl a4c rfl rfl (by decide) rfl (by simpa using LD.out) ?_);intro gm wm mm;have Rm:=hjd (a4x (cells:=bv D.1) mm.blk (by simpa using LD.out));replace hC:=hjd (hC.out.a0k mm.kept);clear mm))
      refine⟨rfl,hC.out.b,Txt.a0e ?_⟩;go_wp2_with (first
       | (at_builtin;refine a1q a4c rfl (.tmp 45) (.tmp 48) rfl rfl (xs:=gs.flatMap bv) (n:=gs.length) (m:=1) (news:=bv D.1) hC.out.g rfl Rm.out (a2x _) (by have:=hal2.out;omega) (by have:=hal2.out;omega) ?_;intro x5 w5 o5 k5 b5;have o5':Ow w5 32 64 x5 (gs ++ [D.1]).length ((gs ++ [D.1]).flatMap bv):=by simpa using o5
          have one5:=hjd (a4w o5);replace hC:=hjd (hC.out.d7w o5' k5 b5);clear o5 o5' k5 b5 Rm))
      refine⟨rfl,hC.out.b,Txt.a0e ?_⟩;go_wp2_with fail;refine⟨rfl,hC.out.b,Txt.a0w ⟨⟨by kernel_rfl,?_⟩,?_⟩⟩
      ·intro j hj o ho hw;have hj2:j=1∨j=7:=by simpa using hj
       rcases hj2 with rfl | rfl <;> cases ho
       ·exact⟨39,rfl,fun u hu=>a1d rfl (fun w=>by kernel_rfl) rfl (hu.cell 1)⟩
       ·exact⟨45,rfl,fun u hu=>a1d rfl (fun w=>by kernel_rfl) rfl (hu.cell 2)⟩
      unfold Txt.a2t;refine a2l (.tmp 50) (.tmp 43) rfl rfl rfl one4.out (by kernel_rfl) hC.out.b (by show 1 < 3;decide) ?_;intro ws b6 k6;replace hC:=hjd (hC.out.st (d1:=x4) (d2:=.slice GV gs.length gc1) b6 k6);clear b6 k6;unfold Txt.a2t;refine a4o (v:=.pointer (some ⟨g5,2,none⟩)) (b7b rfl rfl (by kernel_rfl)) ?_;unfold Txt.a2t;refine a2l (.tmp 51) (.tmp 49) rfl rfl rfl one5.out (by kernel_rfl) hC.out.b (by show 2 < 3;decide) ?_;intro wt b7 k7;replace hC:=hjd (hC.out.st (d1:=x4) (d2:=x5) b7 k7);clear b7 k7;unfold Txt.a2t;simp [Act.put];go_wp2_with fail;go_roundg m;case measure=>omega
      case rel=>exact⟨D.2,acc ++ [((wrap64 (Bn.1:Int)),D.1)],true,_,_,by omega,by go_num,rfl,OD,hjd (by rw [a5a,a5b,hns.out,hgs.out];exact hC.out),hjd (by rw [hE2.out];simp [])⟩
    | false=>
      by_cases hgt:(65536:Int) < (Bn.1:Int)
      ·have hg2:=hjd (show 65536 < Bn.1 from by omega);go_upto_region 9 with(first
        | (go_at_call 70;(with_reducible refine(a4m r _ _ hC.out.rd).mono ?_);rintro e v ⟨rfl,rfl⟩)
        | (go_at_call 72;(with_reducible refine(cB.out _ hC.out.rd).mono ?_);rintro e v32 ⟨rfl,h32,k32⟩;replace hC:=hjd (hC.out.rdr h32 k32);clear h32 k32))
       generalize hns:acc.map (·.1)=ns at *;generalize hgs:acc.map (·.2)=gs at *;replace hns:=hjd hns;replace hgs:=hjd hgs;replace hC:=hjd (hC.out.a0k (Kept.refl [] _).drew);refine Txt.a6k [1,7] (fun u=>Blk u g5 56 #[.slice MA bd.length mc,.slice SV ns.length sc1,.slice GV gs.length gc1]) [_,_,_,_,_,_,_,_,_,_,_,_,_] [_,_,_] rfl [[_,_,_,_,_],[_],[_,_,_,_],[_],[_],[_]] (by kernel_rfl) (by kernel_rfl) (by kernel_rfl) (by kernel_rfl) (by kernel_rfl) (by decide) rfl hC.out.b (Txt.a0e ?_);go_wp2_with (first
        | ((with_reducible refine a0f 39 ?_);refine a0p (v:=.slice SV ns.length sc1) (by kernel_rfl) (a1d rfl (fun w=>by kernel_rfl) rfl (hC.out.b.cell 1)) ?_)
        | ((with_reducible refine a0f 42 ?_);(refine a1a (o:=⟨some 42,_,_,_,_,_⟩) (v0:=.int .i64 (wrap64 (Bn.1:Int))) (cells:=#[.int .i64 (wrap64 (Bn.1:Int))]) rfl a4d rfl rfl (by decide) rfl rfl ?_);intro gm wm mm;have Rm:=hjd (a4x (cells:=[.int .i64 (wrap64 (Bn.1:Int))]) mm.blk rfl);replace hC:=hjd (hC.out.a0k mm.kept);clear mm))
       refine⟨rfl,hC.out.b,Txt.a0e ?_⟩;go_wp2_with (first
        | (at_builtin;refine a1q a4d rfl (.tmp 39) (.tmp 42) rfl rfl (xs:=iv ns) (n:=ns.length) (m:=1) (news:=[.int .i64 (wrap64 (Bn.1:Int))]) hC.out.s rfl Rm.out (by intro u hu;rw [List.mem_singleton.1 hu];rfl) (by have:=hal1.out;omega) (by have:=hal1.out;omega) ?_;intro x4 w4 o4 k4 b4;have o4':Ow w4 3 1 x4 (ns ++ [(wrap64 (Bn.1:Int))]).length (iv (ns ++ [(wrap64 (Bn.1:Int))])):=by simpa [iv]using o4
           have one4:=hjd (a4w o4);replace hC:=hjd (hC.out.c2d o4' k4 b4);clear o4 o4' k4 b4 Rm))
       refine⟨rfl,hC.out.b,Txt.a0e ?_⟩;go_wp2_with (first
        | ((with_reducible refine a0f 45 ?_);refine a0p (v:=.slice GV gs.length gc1) (by kernel_rfl) (a1d rfl (fun w=>by kernel_rfl) rfl (hC.out.b.cell 2)) ?_)
        | (go_at_call 73;(with_reducible refine(cD.out _ hC.out.rd).mono ?_);rintro e v47 ⟨rfl,h47,k47⟩;replace hC:=hjd (hC.out.rdr h47 k47);clear h47 k47))
       refine⟨rfl,hC.out.b,Txt.a0e ?_⟩;go_wp2_with (first
        | ((with_reducible refine a0f 48 ?_);(refine a1a (o:=⟨some 48,_,_,_,_,_⟩) (v0:=ab D.1) (cells:=(bv D.1).toArray) rfl a4c rfl rfl (by decide) rfl (by simpa using LD.out) ?_);intro gm wm mm;have Rm:=hjd (a4x (cells:=bv D.1) mm.blk (by simpa using LD.out));replace hC:=hjd (hC.out.a0k mm.kept);clear mm))
       refine⟨rfl,hC.out.b,Txt.a0e ?_⟩;go_wp2_with (first
        | (at_builtin;refine a1q a4c rfl (.tmp 45) (.tmp 48) rfl rfl (xs:=gs.flatMap bv) (n:=gs.length) (m:=1) (news:=bv D.1) hC.out.g rfl Rm.out (a2x _) (by have:=hal2.out;omega) (by have:=hal2.out;omega) ?_;intro x5 w5 o5 k5 b5;have o5':Ow w5 32 64 x5 (gs ++ [D.1]).length ((gs ++ [D.1]).flatMap bv):=by simpa using o5
           have one5:=hjd (a4w o5);replace hC:=hjd (hC.out.d7w o5' k5 b5);clear o5 o5' k5 b5 Rm))
       refine⟨rfl,hC.out.b,Txt.a0e ?_⟩;go_wp2_with fail;refine⟨rfl,hC.out.b,Txt.a0w ⟨⟨by kernel_rfl,?_⟩,?_⟩⟩
       ·intro j hj o ho hw;have hj2:j=1∨j=7:=by simpa using hj
        rcases hj2 with rfl | rfl <;> cases ho
        ·exact⟨39,rfl,fun u hu=>a1d rfl (fun w=>by kernel_rfl) rfl (hu.cell 1)⟩
        ·exact⟨45,rfl,fun u hu=>a1d rfl (fun w=>by kernel_rfl) rfl (hu.cell 2)⟩
       unfold Txt.a2t;refine a2l (.tmp 50) (.tmp 43) rfl rfl rfl one4.out (by kernel_rfl) hC.out.b (by show 1 < 3;decide) ?_;intro ws b6 k6;replace hC:=hjd (hC.out.st (d1:=x4) (d2:=.slice GV gs.length gc1) b6 k6);clear b6 k6;unfold Txt.a2t;refine a4o (v:=.pointer (some ⟨g5,2,none⟩)) (b7b rfl rfl (by kernel_rfl)) ?_;unfold Txt.a2t;refine a2l (.tmp 51) (.tmp 49) rfl rfl rfl one5.out (by kernel_rfl) hC.out.b (by show 2 < 3;decide) ?_;intro wt b7 k7;replace hC:=hjd (hC.out.st (d1:=x4) (d2:=x5) b7 k7);clear b7 k7;unfold Txt.a2t;simp [Act.put];go_wp2_with fail;go_roundg m;case measure=>omega
       case rel=>exact⟨D.2,acc ++ [((wrap64 (Bn.1:Int)),D.1)],true,_,_,by omega,by go_num,rfl,OD,hjd (by rw [a5a,a5b,hns.out,hgs.out];exact hC.out),hjd (by rw [hE2.out];simp [hg2.out])⟩
      ·have hg2:=hjd (show ¬(65536 < Bn.1)from by omega);have hwr:wrap64 (Bn.1:Int)=(Bn.1:Int):=IntWalk.wrap64_in _ (by omega);rw [hwr]at hE2;clear hwr;go_upto_region 9 with(first
        | (go_at_call 70;(with_reducible refine(a4m r _ _ hC.out.rd).mono ?_);rintro e v ⟨rfl,rfl⟩)
        | (go_at_call 72;(with_reducible refine(cB.out _ hC.out.rd).mono ?_);rintro e v32 ⟨rfl,h32,k32⟩;replace hC:=hjd (hC.out.rdr h32 k32);clear h32 k32))
       generalize hns:acc.map (·.1)=ns at *;generalize hgs:acc.map (·.2)=gs at *;replace hns:=hjd hns;replace hgs:=hjd hgs;replace hC:=hjd (hC.out.a0k (Kept.refl [] _).drew);refine Txt.a6k [1,7] (fun u=>Blk u g5 56 #[.slice MA bd.length mc,.slice SV ns.length sc1,.slice GV gs.length gc1]) [_,_,_,_,_,_,_,_,_,_,_,_,_] [_,_,_] rfl [[_,_,_,_,_],[_],[_,_,_,_],[_],[_],[_]] (by kernel_rfl) (by kernel_rfl) (by kernel_rfl) (by kernel_rfl) (by kernel_rfl) (by decide) rfl hC.out.b (Txt.a0e ?_);go_wp2_with (first
        | ((with_reducible refine a0f 39 ?_);refine a0p (v:=.slice SV ns.length sc1) (by kernel_rfl) (a1d rfl (fun w=>by kernel_rfl) rfl (hC.out.b.cell 1)) ?_)
        | ((with_reducible refine a0f 42 ?_);(refine a1a (o:=⟨some 42,_,_,_,_,_⟩) (v0:=.int .i64 (Bn.1:Int)) (cells:=#[.int .i64 (Bn.1:Int)]) rfl a4d rfl rfl (by decide) rfl rfl ?_);intro gm wm mm;have Rm:=hjd (a4x (cells:=[.int .i64 (Bn.1:Int)]) mm.blk rfl);replace hC:=hjd (hC.out.a0k mm.kept);clear mm))
       refine⟨rfl,hC.out.b,Txt.a0e ?_⟩;go_wp2_with (first
        | (at_builtin;refine a1q a4d rfl (.tmp 39) (.tmp 42) rfl rfl (xs:=iv ns) (n:=ns.length) (m:=1) (news:=[.int .i64 (Bn.1:Int)]) hC.out.s rfl Rm.out (by intro u hu;rw [List.mem_singleton.1 hu];rfl) (by have:=hal1.out;omega) (by have:=hal1.out;omega) ?_;intro x4 w4 o4 k4 b4;have o4':Ow w4 3 1 x4 (ns ++ [(Bn.1:Int)]).length (iv (ns ++ [(Bn.1:Int)])):=by simpa [iv]using o4
           have one4:=hjd (a4w o4);replace hC:=hjd (hC.out.c2d o4' k4 b4);clear o4 o4' k4 b4 Rm))
       refine⟨rfl,hC.out.b,Txt.a0e ?_⟩;go_wp2_with (first
        | ((with_reducible refine a0f 45 ?_);refine a0p (v:=.slice GV gs.length gc1) (by kernel_rfl) (a1d rfl (fun w=>by kernel_rfl) rfl (hC.out.b.cell 2)) ?_)
        | (go_at_call 73;(with_reducible refine(cD.out _ hC.out.rd).mono ?_);rintro e v47 ⟨rfl,h47,k47⟩;replace hC:=hjd (hC.out.rdr h47 k47);clear h47 k47))
       refine⟨rfl,hC.out.b,Txt.a0e ?_⟩;go_wp2_with (first
        | ((with_reducible refine a0f 48 ?_);(refine a1a (o:=⟨some 48,_,_,_,_,_⟩) (v0:=ab D.1) (cells:=(bv D.1).toArray) rfl a4c rfl rfl (by decide) rfl (by simpa using LD.out) ?_);intro gm wm mm;have Rm:=hjd (a4x (cells:=bv D.1) mm.blk (by simpa using LD.out));replace hC:=hjd (hC.out.a0k mm.kept);clear mm))
       refine⟨rfl,hC.out.b,Txt.a0e ?_⟩;go_wp2_with (first
        | (at_builtin;refine a1q a4c rfl (.tmp 45) (.tmp 48) rfl rfl (xs:=gs.flatMap bv) (n:=gs.length) (m:=1) (news:=bv D.1) hC.out.g rfl Rm.out (a2x _) (by have:=hal2.out;omega) (by have:=hal2.out;omega) ?_;intro x5 w5 o5 k5 b5;have o5':Ow w5 32 64 x5 (gs ++ [D.1]).length ((gs ++ [D.1]).flatMap bv):=by simpa using o5
           have one5:=hjd (a4w o5);replace hC:=hjd (hC.out.d7w o5' k5 b5);clear o5 o5' k5 b5 Rm))
       refine⟨rfl,hC.out.b,Txt.a0e ?_⟩;go_wp2_with fail;refine⟨rfl,hC.out.b,Txt.a0w ⟨⟨by kernel_rfl,?_⟩,?_⟩⟩
       ·intro j hj o ho hw;have hj2:j=1∨j=7:=by simpa using hj
        rcases hj2 with rfl | rfl <;> cases ho
        ·exact⟨39,rfl,fun u hu=>a1d rfl (fun w=>by kernel_rfl) rfl (hu.cell 1)⟩
        ·exact⟨45,rfl,fun u hu=>a1d rfl (fun w=>by kernel_rfl) rfl (hu.cell 2)⟩
       unfold Txt.a2t;refine a2l (.tmp 50) (.tmp 43) rfl rfl rfl one4.out (by kernel_rfl) hC.out.b (by show 1 < 3;decide) ?_;intro ws b6 k6;replace hC:=hjd (hC.out.st (d1:=x4) (d2:=.slice GV gs.length gc1) b6 k6);clear b6 k6;unfold Txt.a2t;refine a4o (v:=.pointer (some ⟨g5,2,none⟩)) (b7b rfl rfl (by kernel_rfl)) ?_;unfold Txt.a2t;refine a2l (.tmp 51) (.tmp 49) rfl rfl rfl one5.out (by kernel_rfl) hC.out.b (by show 2 < 3;decide) ?_;intro wt b7 k7;replace hC:=hjd (hC.out.st (d1:=x4) (d2:=x5) b7 k7);clear b7 k7;unfold Txt.a2t;simp [Act.put];go_wp2_with fail;go_roundg m;case measure=>omega
       case rel=>exact⟨D.2,acc ++ [((Bn.1:Int),D.1)],false,_,_,by omega,by go_num,(by rw [decide_eq_false (show ¬((65536:Int) < (Bn.1:Int))from by omega)]),OD,hjd (by rw [a5a,a5b,hns.out,hgs.out];exact hC.out),hjd (by rw [hE2.out];simp [hg2.out])⟩
  ·by_cases hz:gk=0
   ·subst hz;replace hE:=hjd (show PA=(acc,fm,s)from by rw [hE.out];simp [a2n]);replace HR:=hjd (show RC=(⟨bd,PA.1.map (·.1),PA.1.map (·.2)⟩,PA.2.1,PA.2.2)from HR.out);replace h0:=hjd h0;have e:=hjd (show PU=(⟨[],[],[]⟩,11)from by rw [HP.out,HR.out,hE.out];simp [hd]);go_wp2_with (first
     | (go_at_call 70;(with_reducible refine(a4m r _ _ hC.out.rd).mono ?_);rintro e v ⟨rfl,rfl⟩)
     | ((with_reducible refine a0f 57 ?_);refine a0y (cs:=#[.slice none 0 0,.slice none 0 0,.slice none 0 0]) rfl rfl (by kernel_rfl) ?_)
     | (refine a0a (cs:=#[.slice none 0 0,.slice none 0 0,.slice none 0 0]) (o:=⟨none,Op.store 56 (.tmp 2) (.tmp 57),_,_,_,_⟩) a2i rfl (.tmp 2) (.tmp 57) rfl rfl rfl hC.out.z rfl rfl (a1v _ _ _ _ _ _ _ _ _) ?_;intro wz bz kz))
    rw [e.out];exact a1j a2i rfl rfl bz rfl rfl ⟨_,_,_,rfl,Rd.nil _ _,Rd.nil _ _,Rd.nil _ _,hC.out.k.a0r kz hC.out.fz⟩
   ·obtain⟨m,rfl⟩:∃m,gk=m + 1:=⟨gk - 1,by omega⟩;have hE2:=hjd (show PA=(acc ++ (a2n (m + 1) s).1,fm || (a2n (m + 1) s).2.1,(a2n (m + 1) s).2.2)from hE.out);rw [a7m h0]at hE2;have OB:=hjd (b5z hO.out);have cB:=hjd (fun W (h:a7n W r s)=>b0v r s W h);have lB:=b6j s;generalize a9r s=Bn at *;have OD:=hjd (c0l (n:=64) OB.out);have LD:=hjd (a6x 64 Bn.2);have cD:=hjd (fun W (h:a7n W r Bn.2)=>d6h r Bn.2 W h);generalize a8q 64 Bn.2=D at *;clear hO hE;replace h0:=hjd h0;have hpos:(0:Int) < (m:Int) + 1:=by omega
    have hal:=hjd (show acc.length≤65536 from by
     have:=HL.out;rw [hE2.out]at this;simp at this;omega)
    have hal1:=hjd (show(acc.map (·.1)).length≤65536 from by rw [List.length_map];exact hal.out);have hal2:=hjd (show(acc.map (·.2)).length≤65536 from by rw [List.length_map];exact hal.out)
    cases fm with
    | true=>
      go_upto_region 9 with(first
       | (go_at_call 70;(with_reducible refine(a4m r _ _ hC.out.rd).mono ?_);rintro e v ⟨rfl,rfl⟩)
       | (go_at_call 72;(with_reducible refine(cB.out _ hC.out.rd).mono ?_);rintro e v32 ⟨rfl,h32,k32⟩;replace hC:=hjd (hC.out.rdr h32 k32);clear h32 k32))
      generalize hns:acc.map (·.1)=ns at *;generalize hgs:acc.map (·.2)=gs at *;replace hns:=hjd hns;replace hgs:=hjd hgs;replace hC:=hjd (hC.out.a0k (Kept.refl [] _).drew);refine Txt.a6k [1,7] (fun u=>Blk u g5 56 #[.slice MA bd.length mc,.slice SV ns.length sc1,.slice GV gs.length gc1]) [_,_,_,_,_,_,_,_,_,_,_,_,_] [_,_,_] rfl [[_,_,_,_,_],[_],[_,_,_,_],[_],[_],[_]] (by kernel_rfl) (by kernel_rfl) (by kernel_rfl) (by kernel_rfl) (by kernel_rfl) (by decide) rfl hC.out.b (Txt.a0e ?_);go_wp2_with (first
       | ((with_reducible refine a0f 39 ?_);refine a0p (v:=.slice SV ns.length sc1) (by kernel_rfl) (a1d rfl (fun w=>by kernel_rfl) rfl (hC.out.b.cell 1)) ?_)
       | ((with_reducible refine a0f 42 ?_);(refine a1a (o:=⟨some 42,_,_,_,_,_⟩) (v0:=.int .i64 (wrap64 (Bn.1:Int))) (cells:=#[.int .i64 (wrap64 (Bn.1:Int))]) rfl a4d rfl rfl (by decide) rfl rfl ?_);intro gm wm mm;have Rm:=hjd (a4x (cells:=[.int .i64 (wrap64 (Bn.1:Int))]) mm.blk rfl);replace hC:=hjd (hC.out.a0k mm.kept);clear mm))
      refine⟨rfl,hC.out.b,Txt.a0e ?_⟩;go_wp2_with (first
       | (at_builtin;refine a1q a4d rfl (.tmp 39) (.tmp 42) rfl rfl (xs:=iv ns) (n:=ns.length) (m:=1) (news:=[.int .i64 (wrap64 (Bn.1:Int))]) hC.out.s rfl Rm.out (by intro u hu;rw [List.mem_singleton.1 hu];rfl) (by have:=hal1.out;omega) (by have:=hal1.out;omega) ?_;intro x4 w4 o4 k4 b4;have o4':Ow w4 3 1 x4 (ns ++ [(wrap64 (Bn.1:Int))]).length (iv (ns ++ [(wrap64 (Bn.1:Int))])):=by simpa [iv]using o4
          have one4:=hjd (a4w o4);replace hC:=hjd (hC.out.c2d o4' k4 b4);clear o4 o4' k4 b4 Rm))
      refine⟨rfl,hC.out.b,Txt.a0e ?_⟩;go_wp2_with (first
       | ((with_reducible refine a0f 45 ?_);refine a0p (v:=.slice GV gs.length gc1) (by kernel_rfl) (a1d rfl (fun w=>by kernel_rfl) rfl (hC.out.b.cell 2)) ?_)
       | (go_at_call 73;(with_reducible refine(cD.out _ hC.out.rd).mono ?_);rintro e v47 ⟨rfl,h47,k47⟩;replace hC:=hjd (hC.out.rdr h47 k47);clear h47 k47))
      refine⟨rfl,hC.out.b,Txt.a0e ?_⟩;go_wp2_with (first
       | ((with_reducible refine a0f 48 ?_);(refine a1a (o:=⟨some 48,_,_,_,_,_⟩) (v0:=ab D.1) (cells:=(bv D.1).toArray) rfl a4c rfl rfl (by decide) rfl (by simpa using LD.out) ?_);intro gm wm mm;have Rm:=hjd (a4x (cells:=bv D.1) mm.blk (by simpa using LD.out));replace hC:=hjd (hC.out.a0k mm.kept);clear mm))
      refine⟨rfl,hC.out.b,Txt.a0e ?_⟩;go_wp2_with (first
       | (at_builtin;refine a1q a4c rfl (.tmp 45) (.tmp 48) rfl rfl (xs:=gs.flatMap bv) (n:=gs.length) (m:=1) (news:=bv D.1) hC.out.g rfl Rm.out (a2x _) (by have:=hal2.out;omega) (by have:=hal2.out;omega) ?_;intro x5 w5 o5 k5 b5;have o5':Ow w5 32 64 x5 (gs ++ [D.1]).length ((gs ++ [D.1]).flatMap bv):=by simpa using o5
          have one5:=hjd (a4w o5);replace hC:=hjd (hC.out.d7w o5' k5 b5);clear o5 o5' k5 b5 Rm))
      refine⟨rfl,hC.out.b,Txt.a0e ?_⟩;go_wp2_with fail;refine⟨rfl,hC.out.b,Txt.a0w ⟨⟨by kernel_rfl,?_⟩,?_⟩⟩
      ·intro j hj o ho hw;have hj2:j=1∨j=7:=by simpa using hj
       rcases hj2 with rfl | rfl <;> cases ho
       ·exact⟨39,rfl,fun u hu=>a1d rfl (fun w=>by kernel_rfl) rfl (hu.cell 1)⟩
       ·exact⟨45,rfl,fun u hu=>a1d rfl (fun w=>by kernel_rfl) rfl (hu.cell 2)⟩
      unfold Txt.a2t;refine a2l (.tmp 50) (.tmp 43) rfl rfl rfl one4.out (by kernel_rfl) hC.out.b (by show 1 < 3;decide) ?_;intro ws b6 k6;replace hC:=hjd (hC.out.st (d1:=x4) (d2:=.slice GV gs.length gc1) b6 k6);clear b6 k6;unfold Txt.a2t;refine a4o (v:=.pointer (some ⟨g5,2,none⟩)) (b7b rfl rfl (by kernel_rfl)) ?_;unfold Txt.a2t;refine a2l (.tmp 51) (.tmp 49) rfl rfl rfl one5.out (by kernel_rfl) hC.out.b (by show 2 < 3;decide) ?_;intro wt b7 k7;replace hC:=hjd (hC.out.st (d1:=x4) (d2:=x5) b7 k7);clear b7 k7;unfold Txt.a2t;simp [Act.put];go_wp2_with fail;go_roundg m;case measure=>omega
      case rel=>exact⟨D.2,acc ++ [((wrap64 (Bn.1:Int)),D.1)],true,_,_,by omega,by go_num,rfl,OD,hjd (by rw [a5a,a5b,hns.out,hgs.out];exact hC.out),hjd (by rw [hE2.out];simp [])⟩
    | false=>
      by_cases hgt:(65536:Int) < (Bn.1:Int)
      ·have hg2:=hjd (show 65536 < Bn.1 from by omega);go_upto_region 9 with(first
        | (go_at_call 70;(with_reducible refine(a4m r _ _ hC.out.rd).mono ?_);rintro e v ⟨rfl,rfl⟩)
        | (go_at_call 72;(with_reducible refine(cB.out _ hC.out.rd).mono ?_);rintro e v32 ⟨rfl,h32,k32⟩;replace hC:=hjd (hC.out.rdr h32 k32);clear h32 k32))
       generalize hns:acc.map (·.1)=ns at *;generalize hgs:acc.map (·.2)=gs at *;replace hns:=hjd hns;replace hgs:=hjd hgs;replace hC:=hjd (hC.out.a0k (Kept.refl [] _).drew);refine Txt.a6k [1,7] (fun u=>Blk u g5 56 #[.slice MA bd.length mc,.slice SV ns.length sc1,.slice GV gs.length gc1]) [_,_,_,_,_,_,_,_,_,_,_,_,_] [_,_,_] rfl [[_,_,_,_,_],[_],[_,_,_,_],[_],[_],[_]] (by kernel_rfl) (by kernel_rfl) (by kernel_rfl) (by kernel_rfl) (by kernel_rfl) (by decide) rfl hC.out.b (Txt.a0e ?_);go_wp2_with (first
        | ((with_reducible refine a0f 39 ?_);refine a0p (v:=.slice SV ns.length sc1) (by kernel_rfl) (a1d rfl (fun w=>by kernel_rfl) rfl (hC.out.b.cell 1)) ?_)
        | ((with_reducible refine a0f 42 ?_);(refine a1a (o:=⟨some 42,_,_,_,_,_⟩) (v0:=.int .i64 (wrap64 (Bn.1:Int))) (cells:=#[.int .i64 (wrap64 (Bn.1:Int))]) rfl a4d rfl rfl (by decide) rfl rfl ?_);intro gm wm mm;have Rm:=hjd (a4x (cells:=[.int .i64 (wrap64 (Bn.1:Int))]) mm.blk rfl);replace hC:=hjd (hC.out.a0k mm.kept);clear mm))
       refine⟨rfl,hC.out.b,Txt.a0e ?_⟩;go_wp2_with (first
        | (at_builtin;refine a1q a4d rfl (.tmp 39) (.tmp 42) rfl rfl (xs:=iv ns) (n:=ns.length) (m:=1) (news:=[.int .i64 (wrap64 (Bn.1:Int))]) hC.out.s rfl Rm.out (by intro u hu;rw [List.mem_singleton.1 hu];rfl) (by have:=hal1.out;omega) (by have:=hal1.out;omega) ?_;intro x4 w4 o4 k4 b4;have o4':Ow w4 3 1 x4 (ns ++ [(wrap64 (Bn.1:Int))]).length (iv (ns ++ [(wrap64 (Bn.1:Int))])):=by simpa [iv]using o4
           have one4:=hjd (a4w o4);replace hC:=hjd (hC.out.c2d o4' k4 b4);clear o4 o4' k4 b4 Rm))
       refine⟨rfl,hC.out.b,Txt.a0e ?_⟩;go_wp2_with (first
        | ((with_reducible refine a0f 45 ?_);refine a0p (v:=.slice GV gs.length gc1) (by kernel_rfl) (a1d rfl (fun w=>by kernel_rfl) rfl (hC.out.b.cell 2)) ?_)
        | (go_at_call 73;(with_reducible refine(cD.out _ hC.out.rd).mono ?_);rintro e v47 ⟨rfl,h47,k47⟩;replace hC:=hjd (hC.out.rdr h47 k47);clear h47 k47))
       refine⟨rfl,hC.out.b,Txt.a0e ?_⟩;go_wp2_with (first
        | ((with_reducible refine a0f 48 ?_);(refine a1a (o:=⟨some 48,_,_,_,_,_⟩) (v0:=ab D.1) (cells:=(bv D.1).toArray) rfl a4c rfl rfl (by decide) rfl (by simpa using LD.out) ?_);intro gm wm mm;have Rm:=hjd (a4x (cells:=bv D.1) mm.blk (by simpa using LD.out));replace hC:=hjd (hC.out.a0k mm.kept);clear mm))
       refine⟨rfl,hC.out.b,Txt.a0e ?_⟩;go_wp2_with (first
        | (at_builtin;refine a1q a4c rfl (.tmp 45) (.tmp 48) rfl rfl (xs:=gs.flatMap bv) (n:=gs.length) (m:=1) (news:=bv D.1) hC.out.g rfl Rm.out (a2x _) (by have:=hal2.out;omega) (by have:=hal2.out;omega) ?_;intro x5 w5 o5 k5 b5;have o5':Ow w5 32 64 x5 (gs ++ [D.1]).length ((gs ++ [D.1]).flatMap bv):=by simpa using o5
           have one5:=hjd (a4w o5);replace hC:=hjd (hC.out.d7w o5' k5 b5);clear o5 o5' k5 b5 Rm))
       refine⟨rfl,hC.out.b,Txt.a0e ?_⟩;go_wp2_with fail;refine⟨rfl,hC.out.b,Txt.a0w ⟨⟨by kernel_rfl,?_⟩,?_⟩⟩
       ·intro j hj o ho hw;have hj2:j=1∨j=7:=by simpa using hj
        rcases hj2 with rfl | rfl <;> cases ho
        ·exact⟨39,rfl,fun u hu=>a1d rfl (fun w=>by kernel_rfl) rfl (hu.cell 1)⟩
        ·exact⟨45,rfl,fun u hu=>a1d rfl (fun w=>by kernel_rfl) rfl (hu.cell 2)⟩
       unfold Txt.a2t;refine a2l (.tmp 50) (.tmp 43) rfl rfl rfl one4.out (by kernel_rfl) hC.out.b (by show 1 < 3;decide) ?_;intro ws b6 k6;replace hC:=hjd (hC.out.st (d1:=x4) (d2:=.slice GV gs.length gc1) b6 k6);clear b6 k6;unfold Txt.a2t;refine a4o (v:=.pointer (some ⟨g5,2,none⟩)) (b7b rfl rfl (by kernel_rfl)) ?_;unfold Txt.a2t;refine a2l (.tmp 51) (.tmp 49) rfl rfl rfl one5.out (by kernel_rfl) hC.out.b (by show 2 < 3;decide) ?_;intro wt b7 k7;replace hC:=hjd (hC.out.st (d1:=x4) (d2:=x5) b7 k7);clear b7 k7;unfold Txt.a2t;simp [Act.put];go_wp2_with fail;go_roundg m;case measure=>omega
       case rel=>exact⟨D.2,acc ++ [((wrap64 (Bn.1:Int)),D.1)],true,_,_,by omega,by go_num,rfl,OD,hjd (by rw [a5a,a5b,hns.out,hgs.out];exact hC.out),hjd (by rw [hE2.out];simp [hg2.out])⟩
      ·have hg2:=hjd (show ¬(65536 < Bn.1)from by omega);have hwr:wrap64 (Bn.1:Int)=(Bn.1:Int):=IntWalk.wrap64_in _ (by omega);rw [hwr]at hE2;clear hwr;go_upto_region 9 with(first
        | (go_at_call 70;(with_reducible refine(a4m r _ _ hC.out.rd).mono ?_);rintro e v ⟨rfl,rfl⟩)
        | (go_at_call 72;(with_reducible refine(cB.out _ hC.out.rd).mono ?_);rintro e v32 ⟨rfl,h32,k32⟩;replace hC:=hjd (hC.out.rdr h32 k32);clear h32 k32))
       generalize hns:acc.map (·.1)=ns at *;generalize hgs:acc.map (·.2)=gs at *;replace hns:=hjd hns;replace hgs:=hjd hgs;replace hC:=hjd (hC.out.a0k (Kept.refl [] _).drew);refine Txt.a6k [1,7] (fun u=>Blk u g5 56 #[.slice MA bd.length mc,.slice SV ns.length sc1,.slice GV gs.length gc1]) [_,_,_,_,_,_,_,_,_,_,_,_,_] [_,_,_] rfl [[_,_,_,_,_],[_],[_,_,_,_],[_],[_],[_]] (by kernel_rfl) (by kernel_rfl) (by kernel_rfl) (by kernel_rfl) (by kernel_rfl) (by decide) rfl hC.out.b (Txt.a0e ?_);go_wp2_with (first
        | ((with_reducible refine a0f 39 ?_);refine a0p (v:=.slice SV ns.length sc1) (by kernel_rfl) (a1d rfl (fun w=>by kernel_rfl) rfl (hC.out.b.cell 1)) ?_)
        | ((with_reducible refine a0f 42 ?_);(refine a1a (o:=⟨some 42,_,_,_,_,_⟩) (v0:=.int .i64 (Bn.1:Int)) (cells:=#[.int .i64 (Bn.1:Int)]) rfl a4d rfl rfl (by decide) rfl rfl ?_);intro gm wm mm;have Rm:=hjd (a4x (cells:=[.int .i64 (Bn.1:Int)]) mm.blk rfl);replace hC:=hjd (hC.out.a0k mm.kept);clear mm))
       refine⟨rfl,hC.out.b,Txt.a0e ?_⟩;go_wp2_with (first
        | (at_builtin;refine a1q a4d rfl (.tmp 39) (.tmp 42) rfl rfl (xs:=iv ns) (n:=ns.length) (m:=1) (news:=[.int .i64 (Bn.1:Int)]) hC.out.s rfl Rm.out (by intro u hu;rw [List.mem_singleton.1 hu];rfl) (by have:=hal1.out;omega) (by have:=hal1.out;omega) ?_;intro x4 w4 o4 k4 b4;have o4':Ow w4 3 1 x4 (ns ++ [(Bn.1:Int)]).length (iv (ns ++ [(Bn.1:Int)])):=by simpa [iv]using o4
           have one4:=hjd (a4w o4);replace hC:=hjd (hC.out.c2d o4' k4 b4);clear o4 o4' k4 b4 Rm))
       refine⟨rfl,hC.out.b,Txt.a0e ?_⟩;go_wp2_with (first
        | ((with_reducible refine a0f 45 ?_);refine a0p (v:=.slice GV gs.length gc1) (by kernel_rfl) (a1d rfl (fun w=>by kernel_rfl) rfl (hC.out.b.cell 2)) ?_)
        | (go_at_call 73;(with_reducible refine(cD.out _ hC.out.rd).mono ?_);rintro e v47 ⟨rfl,h47,k47⟩;replace hC:=hjd (hC.out.rdr h47 k47);clear h47 k47))
       refine⟨rfl,hC.out.b,Txt.a0e ?_⟩;go_wp2_with (first
        | ((with_reducible refine a0f 48 ?_);(refine a1a (o:=⟨some 48,_,_,_,_,_⟩) (v0:=ab D.1) (cells:=(bv D.1).toArray) rfl a4c rfl rfl (by decide) rfl (by simpa using LD.out) ?_);intro gm wm mm;have Rm:=hjd (a4x (cells:=bv D.1) mm.blk (by simpa using LD.out));replace hC:=hjd (hC.out.a0k mm.kept);clear mm))
       refine⟨rfl,hC.out.b,Txt.a0e ?_⟩;go_wp2_with (first
        | (at_builtin;refine a1q a4c rfl (.tmp 45) (.tmp 48) rfl rfl (xs:=gs.flatMap bv) (n:=gs.length) (m:=1) (news:=bv D.1) hC.out.g rfl Rm.out (a2x _) (by have:=hal2.out;omega) (by have:=hal2.out;omega) ?_;intro x5 w5 o5 k5 b5;have o5':Ow w5 32 64 x5 (gs ++ [D.1]).length ((gs ++ [D.1]).flatMap bv):=by simpa using o5
           have one5:=hjd (a4w o5);replace hC:=hjd (hC.out.d7w o5' k5 b5);clear o5 o5' k5 b5 Rm))
       refine⟨rfl,hC.out.b,Txt.a0e ?_⟩;go_wp2_with fail;refine⟨rfl,hC.out.b,Txt.a0w ⟨⟨by kernel_rfl,?_⟩,?_⟩⟩
       ·intro j hj o ho hw;have hj2:j=1∨j=7:=by simpa using hj
        rcases hj2 with rfl | rfl <;> cases ho
        ·exact⟨39,rfl,fun u hu=>a1d rfl (fun w=>by kernel_rfl) rfl (hu.cell 1)⟩
        ·exact⟨45,rfl,fun u hu=>a1d rfl (fun w=>by kernel_rfl) rfl (hu.cell 2)⟩
       unfold Txt.a2t;refine a2l (.tmp 50) (.tmp 43) rfl rfl rfl one4.out (by kernel_rfl) hC.out.b (by show 1 < 3;decide) ?_;intro ws b6 k6;replace hC:=hjd (hC.out.st (d1:=x4) (d2:=.slice GV gs.length gc1) b6 k6);clear b6 k6;unfold Txt.a2t;refine a4o (v:=.pointer (some ⟨g5,2,none⟩)) (b7b rfl rfl (by kernel_rfl)) ?_;unfold Txt.a2t;refine a2l (.tmp 51) (.tmp 49) rfl rfl rfl one5.out (by kernel_rfl) hC.out.b (by show 2 < 3;decide) ?_;intro wt b7 k7;replace hC:=hjd (hC.out.st (d1:=x4) (d2:=x5) b7 k7);clear b7 k7;unfold Txt.a2t;simp [Act.put];go_wp2_with fail;go_roundg m;case measure=>omega
       case rel=>exact⟨D.2,acc ++ [((Bn.1:Int),D.1)],false,_,_,by omega,by go_num,(by rw [decide_eq_false (show ¬((65536:Int) < (Bn.1:Int))from by omega)]),OD,hjd (by rw [a5a,a5b,hns.out,hgs.out];exact hC.out),hjd (by rw [hE2.out];simp [hg2.out])⟩
  ·by_cases hz:gk=0
   ·subst hz;replace hE:=hjd (show PA=(acc,fm,s)from by rw [hE.out];simp [a2n]);replace HR:=hjd (show RC=(⟨bd,PA.1.map (·.1),PA.1.map (·.2)⟩,PA.2.1,PA.2.2)from HR.out);replace h0:=hjd h0;have e:=hjd (show PU=(⟨[],[],[]⟩,10)from by rw [HP.out,HR.out,hE.out];simp [hd]);go_wp2_with (first
     | (go_at_call 70;(with_reducible refine(a4m r _ _ hC.out.rd).mono ?_);rintro e v ⟨rfl,rfl⟩)
     | ((with_reducible refine a0f 57 ?_);refine a0y (cs:=#[.slice none 0 0,.slice none 0 0,.slice none 0 0]) rfl rfl (by kernel_rfl) ?_)
     | (refine a0a (cs:=#[.slice none 0 0,.slice none 0 0,.slice none 0 0]) (o:=⟨none,Op.store 56 (.tmp 2) (.tmp 57),_,_,_,_⟩) a2i rfl (.tmp 2) (.tmp 57) rfl rfl rfl hC.out.z rfl rfl (a1v _ _ _ _ _ _ _ _ _) ?_;intro wz bz kz))
    rw [e.out];exact a1j a2i rfl rfl bz rfl rfl ⟨_,_,_,rfl,Rd.nil _ _,Rd.nil _ _,Rd.nil _ _,hC.out.k.a0r kz hC.out.fz⟩
   ·obtain⟨m,rfl⟩:∃m,gk=m + 1:=⟨gk - 1,by omega⟩;have hb2:(s.1 == 0)=false:=by simpa using h0
    replace hE:=hjd (show PA=(acc,fm,s)from by rw [hE.out,a9b _ h0];simp);replace HR:=hjd (show RC=(⟨bd,PA.1.map (·.1),PA.1.map (·.2)⟩,PA.2.1,PA.2.2)from HR.out);have hpos:(0:Int) < (m:Int) + 1:=by omega
    replace h0:=hjd h0;have e:=hjd (show PU=(⟨[],[],[]⟩,10)from by rw [HP.out,HR.out,hE.out];simp [hd]);go_wp2_with (first
     | (go_at_call 70;(with_reducible refine(a4m r _ _ hC.out.rd).mono ?_);rintro e v ⟨rfl,rfl⟩)
     | ((with_reducible refine a0f 57 ?_);refine a0y (cs:=#[.slice none 0 0,.slice none 0 0,.slice none 0 0]) rfl rfl (by kernel_rfl) ?_)
     | (refine a0a (cs:=#[.slice none 0 0,.slice none 0 0,.slice none 0 0]) (o:=⟨none,Op.store 56 (.tmp 2) (.tmp 57),_,_,_,_⟩) a2i rfl (.tmp 2) (.tmp 57) rfl rfl rfl hC.out.z rfl rfl (a1v _ _ _ _ _ _ _ _ _) ?_;intro wz bz kz))
    rw [e.out];exact a1j a2i rfl rfl bz rfl rfl ⟨_,_,_,rfl,Rd.nil _ _,Rd.nil _ _,Rd.nil _ _,hC.out.k.a0r kz hC.out.fz⟩
  ·by_cases hz:gk=0
   ·subst hz;replace hE:=hjd (show PA=(acc,fm,s)from by rw [hE.out];simp [a2n]);replace HR:=hjd (show RC=(⟨bd,PA.1.map (·.1),PA.1.map (·.2)⟩,PA.2.1,PA.2.2)from HR.out);replace h0:=hjd h0;have e:=hjd (show PU=(⟨[],[],[]⟩,12)from by rw [HP.out,HR.out,hE.out];simp [hd]);go_wp2_with (first
     | (go_at_call 70;(with_reducible refine(a4m r _ _ hC.out.rd).mono ?_);rintro e v ⟨rfl,rfl⟩)
     | ((with_reducible refine a0f 57 ?_);refine a0y (cs:=#[.slice none 0 0,.slice none 0 0,.slice none 0 0]) rfl rfl (by kernel_rfl) ?_)
     | (refine a0a (cs:=#[.slice none 0 0,.slice none 0 0,.slice none 0 0]) (o:=⟨none,Op.store 56 (.tmp 2) (.tmp 57),_,_,_,_⟩) a2i rfl (.tmp 2) (.tmp 57) rfl rfl rfl hC.out.z rfl rfl (a1v _ _ _ _ _ _ _ _ _) ?_;intro wz bz kz))
    rw [e.out];exact a1j a2i rfl rfl bz rfl rfl ⟨_,_,_,rfl,Rd.nil _ _,Rd.nil _ _,Rd.nil _ _,hC.out.k.a0r kz hC.out.fz⟩
   ·obtain⟨m,rfl⟩:∃m,gk=m + 1:=⟨gk - 1,by omega⟩;have hb2:(s.1 == 0)=false:=by simpa using h0
    replace hE:=hjd (show PA=(acc,fm,s)from by rw [hE.out,a9b _ h0];simp);replace HR:=hjd (show RC=(⟨bd,PA.1.map (·.1),PA.1.map (·.2)⟩,PA.2.1,PA.2.2)from HR.out);have hpos:(0:Int) < (m:Int) + 1:=by omega
    replace h0:=hjd h0;have e:=hjd (show PU=(⟨[],[],[]⟩,12)from by rw [HP.out,HR.out,hE.out];simp [hd]);go_wp2_with (first
     | (go_at_call 70;(with_reducible refine(a4m r _ _ hC.out.rd).mono ?_);rintro e v ⟨rfl,rfl⟩)
     | ((with_reducible refine a0f 57 ?_);refine a0y (cs:=#[.slice none 0 0,.slice none 0 0,.slice none 0 0]) rfl rfl (by kernel_rfl) ?_)
     | (refine a0a (cs:=#[.slice none 0 0,.slice none 0 0,.slice none 0 0]) (o:=⟨none,Op.store 56 (.tmp 2) (.tmp 57),_,_,_,_⟩) a2i rfl (.tmp 2) (.tmp 57) rfl rfl rfl hC.out.z rfl rfl (a1v _ _ _ _ _ _ _ _ _) ?_;intro wz bz kz))
    rw [e.out];exact a1j a2i rfl rfl bz rfl rfl ⟨_,_,_,rfl,Rd.nil _ _,Rd.nil _ _,Rd.nil _ _,hC.out.k.a0r kz hC.out.fz⟩
end Go.Proofs.YtdbngnlpafcogaaGreat
