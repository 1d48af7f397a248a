/-
  Batches of updates: what the program reads bytes as (Parse).
-/
import Derived.Test.YtdbngnlpafcogaaGreatZbJ05
set_option maxRecDepth 100000
namespace Go.Proofs.YtdbngnlpafcogaaGreat
open Go.RowKit Go.Mem Go.Txt
theorem a2x(a c d:List UInt8)(x:Int):bv a ++ (Value.int .i64 x :: bv c) ++ bv d ++ []=a2a a x c d:=by simp [a2a]
theorem d9x(p:Nat→UInt8):Tryz.prog.built 104 [(0,ab ((List.range 32).map p))]=some (a2a ((List.range 32).map p) 0 (a0e 32) (a0e 64)).toArray:=by kernel_rfl
theorem a5z{id:List UInt8}(h:id.length=32):Tryz.prog.built 104 [(0,ab id)]=some (a2a id 0 (a0e 32) (a0e 64)).toArray:=by
 rw [a5s h]
 exact d9x _
def okS(s:St):Prop:=s.1=0∨s.1=10∨s.1=12
theorem c6m{n:Nat}{s:St}(h:okS s):okS (a3e n s).2:=by
 unfold a3e
 split
 ·split
  ·exact .inl rfl
  ·exact .inr (.inl rfl)
 ·exact h
theorem a5p{n:Nat}{s:St}(h:okS s):okS (a3w n s).2:=c6m h
theorem b5w{s:St}(h:okS s):okS (a8i s).2:=c6m h
theorem c2q{m:Nat}{s:St}(h:okS s):okS (a6l m s).2:=by
 unfold a6l
 split
 ·exact .inr (.inr rfl)
 ·exact b5w h
theorem b7w{s:St}(h:okS s):(s.1=0∧a8j s=0)∨(s.1=0∧a8j s=11)∨(s.1≠0∧a8j s=10)∨(s.1≠0∧a8j s=12):=by
 unfold a8j
 rcases h with h | h | h
 ·rw [if_pos h]
  by_cases hl:0 < s.2.length
  ·rw [if_pos hl];exact .inr (.inl ⟨h,rfl⟩)
  ·rw [if_neg hl];exact .inl ⟨h,rfl⟩
 ·rw [if_neg (by omega),h];exact .inr (.inr (.inl ⟨by decide,rfl⟩))
 ·rw [if_neg (by omega),h];exact .inr (.inr (.inr ⟨by decide,rfl⟩))
theorem a4e{u:World}{g:Nat}{id key sig:List UInt8}{ver v2:Int}(L:UpL id key sig)(h:Blk u g 104 (a2a id ver key sig).toArray):Blk (u.setCell ⟨g,32,none⟩ (.int .i64 v2)) g 104 (a2a id v2 key sig).toArray:=by
 have h1:=h.b2b 32 (.int .i64 v2)
 have e:(a2a id ver key sig).toArray.setIfInBounds 32 (.int .i64 v2)=(a2a id v2 key sig).toArray:=by
  rw [List.setIfInBounds_toArray]
  congr 1
  unfold a2a
  have l1:(bv id).length=32:=by simpa using L.id
  rw [List.set_append_right _ _ (by omega),l1]
  rfl
 rw [←e]
 exact h1
set_option maxHeartbeats 6400000 in
theorem b7f{bs:List UInt8}(v:Value)(w:World)(hr:Rd w 1 v bs.length (bv bs))(hb:bs.length≤140737488351232) :
 Calls Tryz.prog 20 #[v] w fun e w'=>∃v',e= .returned (.tuple #[v',.int .i64 (a4w bs).2])∧Rd w' 129 v' (a4w bs).1.length ((a4w bs).1.flatMap uC)∧Kept [] w w':=by
 have cn:=hjd (fun u h=>e5d v bs u h (by omega))
 have H:=hjd hr
 obtain⟨VA,vc,rfl,_⟩:=id hr
 clear hr hb
 have hz0:=hjd (a3g (ver:=0) (show UpL (a0e 32) (a0e 32) (a0e 64)from⟨rfl,rfl,rfl⟩))
 go_enter Tryz.func20,Tryz.ntmps20
 go_wp2_with (first
  | (go_at_call 68;(with_reducible refine(cn.out _ H.out).mono ?_);rintro e v12 ⟨r,rfl,h12,k12,l12⟩
     have R:=hjd h12
     have K:=hjd k12
     have LR:=hjd l12
     clear h12 k12 l12)
  | (go_at_call 69;(with_reducible refine(d2j r _ _ R.out).mono ?_);rintro e v14 ⟨rfl,h14,k14⟩
     replace R:=hjd h14
     replace K:=hjd (K.out.fresh k14 (by simpa using LR.out))
     clear h14 k14))
 have HA:=hjd (show b3a bs=a2r (a6l 65536 (0,bs)).1 (a6l 65536 (0,bs)).2 from rfl)
 have HO:=hjd (c2q (m:=65536) (show okS (0,bs)from .inl rfl))
 have HP:=hjd (show a4w bs=if a8j (b3a bs).2.2≠0 then([],a8j (b3a bs).2.2)else if (b3a bs).2.1=true then([],13)else((b3a bs).1,0)from rfl)
 have HL:=hjd (Nat.le_trans (b1b (a6l 65536 (0,bs)).1 (a6l 65536 (0,bs)).2) (b4j 65536 _))
 rw [←HA.out]at HL
 have HN:=hjd (b4j 65536 (0,bs))
 generalize (a6l 65536 (0,bs)).1=N at *
 generalize (a6l 65536 (0,bs)).2=s0 at *
 generalize hPU:a4w bs=PU at HP
 replace hPU:=hjd hPU
 generalize b3a bs=PA at *
 go_loopg [5,6,7] N (fun f x5 x6 x7 wk=>∃(s:St) (acc:List Upd) (fm:Bool),f≤65536∧x7= .int .i64 (f:Int)∧x6= .bool fm∧Hid (a6w wk r s)∧Hid (okS s)∧Hid (Kept [] w wk)∧Hid (Ow wk 104 129 x5 acc.length (acc.flatMap uC))∧Hid (∀k,x5.ownBlock=some k→w.heap.size≤k)∧Hid (PA=(acc ++ (a2r f s).1,fm || (a2r f s).2.1,(a2r f s).2.2)))
 case atStart=>exact⟨s0,[],false,HN.out,rfl,rfl,R,HO,K,hjd (Ow.nil _ _ _),hjd (fun k h=>by cases h),hjd (by rw [HA.out];simp)⟩
 case round=>
  obtain⟨s,acc,fm,hfb,rfl,rfl,hR,hO,hK,hX,hF,hE⟩:=hrel
  clear R HO K
  have hXo:=hX.out
  obtain⟨XA,xc,rfl,_⟩:=hXo.shape
  clear hXo
  rcases b7w hO.out with⟨h0,hd⟩ | ⟨h0,hd⟩ | ⟨h0,hd⟩ | ⟨h0,hd⟩
  ·by_cases hz:gk=0
   ·subst hz
    replace hE:=hjd (show PA=(acc,fm,s)from by rw [hE.out];simp [a2r])
    replace h0:=hjd h0
    cases fm with
    | true=>
      go_wp2_with (first
       | (go_at_call 70;(with_reducible refine(a4b r _ _ hR.out).mono ?_);rintro e v ⟨rfl,rfl⟩))
      go_ret2
      refine⟨.slice none 0 0,?_,?_,hK.out⟩
      ·have e:PU=([],13):=by rw [HP.out,hE.out];simp [hd]
       rw [hPU.out,e]
       rfl
      ·have e:PU=([],13):=by rw [HP.out,hE.out];simp [hd]
       rw [hPU.out,e]
       exact Rd.nil _ _
    | false=>
      have e:PU=(acc,0):=by rw [HP.out,hE.out];simp [hd]
      replace e:=hjd e
      go_wp2_with (first
       | (go_at_call 70;(with_reducible refine(a4b r _ _ hR.out).mono ?_);rintro e v ⟨rfl,rfl⟩))
      go_ret2
      refine⟨.slice XA acc.length xc,?_,?_,hK.out⟩
      ·rw [hPU.out,e.out]
       rfl
      ·rw [hPU.out,e.out]
       exact Rd.a6u hX.out
   ·obtain⟨m,rfl⟩:∃m,gk=m + 1:=⟨gk - 1,by omega⟩
    have hE2:=hjd (show PA=(acc ++ (a2r (m + 1) s).1,fm || (a2r (m + 1) s).2.1,(a2r (m + 1) s).2.2)from hE.out)
    rw [a7l h0]at hE2
    have OA:=hjd (a5p (n:=32) hO.out)
    have LA:=hjd (a3h 32 s)
    have cA:=hjd (fun W (h:a6w W r s)=>a5v r s W h)
    generalize a3w 32 s=A at *
    have OB:=hjd (b5w OA.out)
    have cB:=hjd (fun W (h:a6w W r A.2)=>b0g r A.2 W h)
    have lB:=b4h A.2
    generalize a8i A.2=Bn at *
    have OC:=hjd (a5p (n:=32) OB.out)
    have LC:=hjd (a3h 32 Bn.2)
    have cC:=hjd (fun W (h:a6w W r Bn.2)=>a5v r Bn.2 W h)
    generalize a3w 32 Bn.2=C at *
    have OD:=hjd (a5p (n:=64) OC.out)
    have LD:=hjd (a3h 64 C.2)
    have cD:=hjd (fun W (h:a6w W r C.2)=>d2i r C.2 W h)
    generalize a3w 64 C.2=D at *
    clear hO hE
    replace h0:=hjd h0
    have hpos:(0:Int) < (m:Int) + 1:=by omega
    have hal:=hjd (show acc.length≤65536 from by
     have:=HL.out
     rw [hE2.out]at this
     simp at this
     omega)
    have NR:=hjd (show(Value.slice XA acc.length xc).ownBlock≠some r from by
     obtain⟨v,hb,_⟩:=hR.out
     exact hX.out.a4n hb (by decide))
    have L1:=hjd (show UpL A.1 (a0e 32) (a0e 64)from⟨LA.out,rfl,rfl⟩)
    have L4:=hjd (show UpL A.1 C.1 D.1 from⟨LA.out,LC.out,LD.out⟩)
    have hz1:=hjd (a3g (ver:=0) L1.out)
    have hz4:=hjd (a3g (ver:=(wrap64 (Bn.1:Int))) L4.out)
    have ho1:=hjd (a7x (id:=A.1) (key:=a0e 32) (sig:=a0e 64) (ver:=0))
    have ho4:=hjd (a7x (id:=A.1) (key:=C.1) (sig:=D.1) (ver:=(wrap64 (Bn.1:Int))))
    cases fm with
    | true=>
      go_wp2_with (first
       | (go_at_call 70;(with_reducible refine(a4b r _ _ hR.out).mono ?_);rintro e v ⟨rfl,rfl⟩)
       | (go_at_call 71;(with_reducible refine(cA.out _ hR.out).mono ?_);rintro e v30 ⟨rfl,h30,k30⟩
          replace hR:=hjd trivial
          have R1:=hjd h30
          replace hK:=hjd (hK.out.fresh k30 (by simpa using LR.out))
          replace hX:=hjd (hX.out.kept k30 (fun k hk h=>NR.out (by rw [List.mem_singleton.1 h]at hk;exact hk)))
          clear h30 k30)
       | ((with_reducible refine a0l 31 ?_);refine a2s (o:=⟨some 31,_,_,_,_,_⟩) rfl 0 (.tmp 30) rfl rfl (a5z LA.out) ?_)
       | ((with_reducible refine a0l 8 ?_);(refine a0h (o:=⟨some 8,_,_,_,_,_⟩) rfl rfl a4a ?_);intro g8 w8 m8
          refine a0c (cs:=(a2a A.1 0 (a0e 32) (a0e 64)).toArray) (o:=⟨none,Op.store 104 (.tmp 8) (.tmp 31),_,_,_,_⟩) b0d rfl (.tmp 8) (.tmp 31) rfl rfl rfl m8.blk (List.size_toArray.trans hz0.out) (List.size_toArray.trans hz1.out) ho1.out ?_
          intro wb8 b8 k8
          have B8:=hjd b8
          have NG:=hjd (m8.ne R1.out.lt)
          have L8:=hjd (Nat.le_trans hK.out.size m8.le)
          have NX:=hjd (show∀k,(Value.slice XA acc.length xc).ownBlock=some k→k≠g8 from fun k hk=>m8.ne (hX.out.lt hk))
          have kk:=m8.kept.a0p k8 m8.le
          replace R1:=hjd (R1.out.a0o kk)
          replace hK:=hjd (hK.out.a0g kk)
          replace hX:=hjd (hX.out.a0o kk)
          clear m8 b8 k8 kk)
       | (go_at_call 72;(with_reducible refine(cB.out _ R1.out).mono ?_);rintro e v33 ⟨rfl,h33,k33⟩
          have R2:=hjd h33
          replace hK:=hjd (hK.out.fresh k33 (by simpa using LR.out))
          replace hX:=hjd (hX.out.kept k33 (fun k hk h=>NR.out (by rw [List.mem_singleton.1 h]at hk;exact hk)))
          replace B8:=hjd (B8.out.kept k33 (by simpa using fun h=>NG.out h.symm))
          clear h33 k33 R1)
       | (go_at_call 71;(with_reducible refine(cC.out _ R2.out).mono ?_);rintro e v42 ⟨rfl,h42,k42⟩
          have R3:=hjd h42
          replace hK:=hjd (hK.out.fresh k42 (by simpa using LR.out))
          replace hX:=hjd (hX.out.kept k42 (fun k hk h=>NR.out (by rw [List.mem_singleton.1 h]at hk;exact hk)))
          replace B8:=hjd (B8.out.kept k42 (by simpa using fun h=>NG.out h.symm))
          clear h42 k42 R2)
       | (go_at_call 73;(with_reducible refine(cD.out _ R3.out).mono ?_);rintro e v44 ⟨rfl,h44,k44⟩
          have R4:=hjd h44
          replace hK:=hjd (hK.out.fresh k44 (by simpa using LR.out))
          replace hX:=hjd (hX.out.kept k44 (fun k hk h=>NR.out (by rw [List.mem_singleton.1 h]at hk;exact hk)))
          replace B8:=hjd (B8.out.kept k44 (by simpa using fun h=>NG.out h.symm))
          have qv:=a2w L1.out B8.out
          have fz:=B8.out.frozen 32
          have BS:=hjd (a4e (v2:=(wrap64 (Bn.1:Int))) L1.out B8.out)
          clear h44 k44 R3)
       | (refine a1q (o:=⟨none,Op.store 22 (.tmp 46) (.tmp 42),_,_,_,_⟩) a2f.row rfl (.tmp 46) (.tmp 42) rfl rfl (pre:=bv A.1 ++ [Value.int .i64 (wrap64 (Bn.1:Int))]) (mid:=bv (a0e 32)) (post:=bv (a0e 64)) rfl (by have:=BS.out;simpa [a2a]using this) (by simp [LA.out]) (by simp) (by simpa using LC.out) (a1r _) ?_
          intro wk1 b1 k1
          have BK:=hjd (show Blk wk1 g8 104 (bv A.1 ++ (Value.int .i64 (wrap64 (Bn.1:Int)) :: bv C.1) ++ bv (a0e 64) ++ []).toArray from by
           have e:bv A.1 ++ [Value.int .i64 (wrap64 (Bn.1:Int))] ++ bv C.1 ++ bv (a0e 64)=bv A.1 ++ (Value.int .i64 (wrap64 (Bn.1:Int)) :: bv C.1) ++ bv (a0e 64) ++ []:=by simp
           rw [←e]
           exact b1)
          have KS:=hjd (((Kept.refl [g8] v44).setCell (p:=⟨g8,32,none⟩) (.inl (by simp)) (.int .i64 (wrap64 (Bn.1:Int)))).trans' k1)
          clear b1 k1 qv fz)
       | (refine a1q (o:=⟨none,Op.store 32 (.tmp 47) (.tmp 44),_,_,_,_⟩) Q.b6f rfl (.tmp 47) (.tmp 44) rfl rfl (pre:=bv A.1 ++ (Value.int .i64 (wrap64 (Bn.1:Int)) :: bv C.1)) (mid:=bv (a0e 64)) (post:=[]) rfl BK.out (by simp [LA.out,LC.out]) (by simp) (by simpa using LD.out) (a1r _) ?_
          intro wk2 b2 k2
          have B9:=hjd (show Blk wk2 g8 104 (a2a A.1 (wrap64 (Bn.1:Int)) C.1 D.1).toArray from by rw [←a2x];exact b2)
          have KT:=KS.out.trans' k2
          replace hK:=hjd (hK.out.fresh KT (by simpa using L8.out))
          replace hX:=hjd (hX.out.kept KT (fun k hk h=>NX.out k hk (List.mem_singleton.1 h)))
          replace R4:=hjd (R4.out.a5x KT B8.out (by decide) NG.out)
          clear b2 k2 KT KS BK BS B8)
       | ((with_reducible refine a0l 49 ?_);refine a0d (cs:=(a2a A.1 (wrap64 (Bn.1:Int)) C.1 D.1).toArray) (o:=⟨some 49,_,_,_,_,_⟩) b0d rfl (.tmp 8) rfl rfl B9.out (List.size_toArray.trans hz4.out) ?_)
       | ((with_reducible refine a0l 50 ?_);(refine a1c (o:=⟨some 50,_,_,_,_,_⟩) (v0:=b0r A.1 (wrap64 (Bn.1:Int)) C.1 D.1) (cells:=(a2a A.1 (wrap64 (Bn.1:Int)) C.1 D.1).toArray) rfl a6c rfl rfl (by decide) rfl (List.size_toArray.trans hz4.out) ?_);intro g50 w50 m50
          have R50:=hjd (show Rd w50 129 (.slice (some ⟨g50,0,none⟩) 1 1) 1 (a2a A.1 (wrap64 (Bn.1:Int)) C.1 D.1)from⟨_,_,rfl,by simpa using hz4.out,by simp,fun _=>⟨g50,0,rfl,fun j u hu=>by rw [m50.blk.cell,Nat.zero_add];simpa using hu⟩⟩)
          replace hK:=hjd (hK.out.a0g m50.kept)
          replace hX:=hjd (hX.out.a0o m50.kept)
          replace R4:=hjd (R4.out.a0o m50.kept)
          clear m50 B9)
       | (at_builtin;refine a1v a6c rfl (.tmp 48) (.tmp 50) rfl rfl (xs:=acc.flatMap uC) (n:=acc.length) (m:=1) (news:=a2a A.1 (wrap64 (Bn.1:Int)) C.1 D.1) hX.out rfl R50.out (fun x hx=>by have:=ho4.out;rw [Array.all_eq_true']at this;exact this x (by simpa using hx)) (by have:=hal.out;omega) (by have:=hal.out;omega) ?_
          intro x51 w51 o51 k51 b51
          have F51:=hjd (show∀k,x51.ownBlock=some k→w.heap.size≤k from fun k hk=>by
           rcases b51 with b | b
           ·exact hF.out k (b.symm.trans hk)
           ·have:=hK.out.size
            have e:=b.symm.trans hk
            cases e
            exact this)
          have R5:=hjd (show a6w w51 r D.2 from by
           obtain⟨v,hb,ho⟩:=R4.out
           exact⟨v,hb.kept k51 (fun h=>NR.out (Option.mem_toList.1 h)),ho.kept k51 (fun g hg hm=>ho.ne_ hX.out (by decide) g hg (Option.mem_toList.1 hm))⟩)
          replace hK:=hjd (hK.out.fresh k51 (fun k hk=>hF.out k (Option.mem_toList.1 hk)))
          have O51:=hjd (show Ow w51 104 129 x51 (acc ++ [(⟨A.1,(wrap64 (Bn.1:Int)),C.1,D.1⟩:Upd)]).length ((acc ++ [(⟨A.1,(wrap64 (Bn.1:Int)),C.1,D.1⟩:Upd)]).flatMap uC)from by simpa using o51)
          clear o51 k51 b51 R4))
      go_roundg m
      case measure=>omega
      case rel=>exact⟨D.2,acc ++ [⟨A.1,(wrap64 (Bn.1:Int)),C.1,D.1⟩],true,by omega,by go_num,rfl,R5,OD,hK,O51,F51,hjd (by rw [hE2.out];simp [])⟩
    | false=>
      by_cases hgt:(64:Int) < (Bn.1:Int)
      ·have hg2:=hjd (show 64 < Bn.1 from by omega)
       go_wp2_with (first
        | (go_at_call 70;(with_reducible refine(a4b r _ _ hR.out).mono ?_);rintro e v ⟨rfl,rfl⟩)
        | (go_at_call 71;(with_reducible refine(cA.out _ hR.out).mono ?_);rintro e v30 ⟨rfl,h30,k30⟩
           replace hR:=hjd trivial
           have R1:=hjd h30
           replace hK:=hjd (hK.out.fresh k30 (by simpa using LR.out))
           replace hX:=hjd (hX.out.kept k30 (fun k hk h=>NR.out (by rw [List.mem_singleton.1 h]at hk;exact hk)))
           clear h30 k30)
        | ((with_reducible refine a0l 31 ?_);refine a2s (o:=⟨some 31,_,_,_,_,_⟩) rfl 0 (.tmp 30) rfl rfl (a5z LA.out) ?_)
        | ((with_reducible refine a0l 8 ?_);(refine a0h (o:=⟨some 8,_,_,_,_,_⟩) rfl rfl a4a ?_);intro g8 w8 m8
           refine a0c (cs:=(a2a A.1 0 (a0e 32) (a0e 64)).toArray) (o:=⟨none,Op.store 104 (.tmp 8) (.tmp 31),_,_,_,_⟩) b0d rfl (.tmp 8) (.tmp 31) rfl rfl rfl m8.blk (List.size_toArray.trans hz0.out) (List.size_toArray.trans hz1.out) ho1.out ?_
           intro wb8 b8 k8
           have B8:=hjd b8
           have NG:=hjd (m8.ne R1.out.lt)
           have L8:=hjd (Nat.le_trans hK.out.size m8.le)
           have NX:=hjd (show∀k,(Value.slice XA acc.length xc).ownBlock=some k→k≠g8 from fun k hk=>m8.ne (hX.out.lt hk))
           have kk:=m8.kept.a0p k8 m8.le
           replace R1:=hjd (R1.out.a0o kk)
           replace hK:=hjd (hK.out.a0g kk)
           replace hX:=hjd (hX.out.a0o kk)
           clear m8 b8 k8 kk)
        | (go_at_call 72;(with_reducible refine(cB.out _ R1.out).mono ?_);rintro e v33 ⟨rfl,h33,k33⟩
           have R2:=hjd h33
           replace hK:=hjd (hK.out.fresh k33 (by simpa using LR.out))
           replace hX:=hjd (hX.out.kept k33 (fun k hk h=>NR.out (by rw [List.mem_singleton.1 h]at hk;exact hk)))
           replace B8:=hjd (B8.out.kept k33 (by simpa using fun h=>NG.out h.symm))
           clear h33 k33 R1)
        | (go_at_call 71;(with_reducible refine(cC.out _ R2.out).mono ?_);rintro e v42 ⟨rfl,h42,k42⟩
           have R3:=hjd h42
           replace hK:=hjd (hK.out.fresh k42 (by simpa using LR.out))
           replace hX:=hjd (hX.out.kept k42 (fun k hk h=>NR.out (by rw [List.mem_singleton.1 h]at hk;exact hk)))
           replace B8:=hjd (B8.out.kept k42 (by simpa using fun h=>NG.out h.symm))
           clear h42 k42 R2)
        | (go_at_call 73;(with_reducible refine(cD.out _ R3.out).mono ?_);rintro e v44 ⟨rfl,h44,k44⟩
           have R4:=hjd h44
           replace hK:=hjd (hK.out.fresh k44 (by simpa using LR.out))
           replace hX:=hjd (hX.out.kept k44 (fun k hk h=>NR.out (by rw [List.mem_singleton.1 h]at hk;exact hk)))
           replace B8:=hjd (B8.out.kept k44 (by simpa using fun h=>NG.out h.symm))
           have qv:=a2w L1.out B8.out
           have fz:=B8.out.frozen 32
           have BS:=hjd (a4e (v2:=(wrap64 (Bn.1:Int))) L1.out B8.out)
           clear h44 k44 R3)
        | (refine a1q (o:=⟨none,Op.store 22 (.tmp 46) (.tmp 42),_,_,_,_⟩) a2f.row rfl (.tmp 46) (.tmp 42) rfl rfl (pre:=bv A.1 ++ [Value.int .i64 (wrap64 (Bn.1:Int))]) (mid:=bv (a0e 32)) (post:=bv (a0e 64)) rfl (by have:=BS.out;simpa [a2a]using this) (by simp [LA.out]) (by simp) (by simpa using LC.out) (a1r _) ?_
           intro wk1 b1 k1
           have BK:=hjd (show Blk wk1 g8 104 (bv A.1 ++ (Value.int .i64 (wrap64 (Bn.1:Int)) :: bv C.1) ++ bv (a0e 64) ++ []).toArray from by
            have e:bv A.1 ++ [Value.int .i64 (wrap64 (Bn.1:Int))] ++ bv C.1 ++ bv (a0e 64)=bv A.1 ++ (Value.int .i64 (wrap64 (Bn.1:Int)) :: bv C.1) ++ bv (a0e 64) ++ []:=by simp
            rw [←e]
            exact b1)
           have KS:=hjd (((Kept.refl [g8] v44).setCell (p:=⟨g8,32,none⟩) (.inl (by simp)) (.int .i64 (wrap64 (Bn.1:Int)))).trans' k1)
           clear b1 k1 qv fz)
        | (refine a1q (o:=⟨none,Op.store 32 (.tmp 47) (.tmp 44),_,_,_,_⟩) Q.b6f rfl (.tmp 47) (.tmp 44) rfl rfl (pre:=bv A.1 ++ (Value.int .i64 (wrap64 (Bn.1:Int)) :: bv C.1)) (mid:=bv (a0e 64)) (post:=[]) rfl BK.out (by simp [LA.out,LC.out]) (by simp) (by simpa using LD.out) (a1r _) ?_
           intro wk2 b2 k2
           have B9:=hjd (show Blk wk2 g8 104 (a2a A.1 (wrap64 (Bn.1:Int)) C.1 D.1).toArray from by rw [←a2x];exact b2)
           have KT:=KS.out.trans' k2
           replace hK:=hjd (hK.out.fresh KT (by simpa using L8.out))
           replace hX:=hjd (hX.out.kept KT (fun k hk h=>NX.out k hk (List.mem_singleton.1 h)))
           replace R4:=hjd (R4.out.a5x KT B8.out (by decide) NG.out)
           clear b2 k2 KT KS BK BS B8)
        | ((with_reducible refine a0l 49 ?_);refine a0d (cs:=(a2a A.1 (wrap64 (Bn.1:Int)) C.1 D.1).toArray) (o:=⟨some 49,_,_,_,_,_⟩) b0d rfl (.tmp 8) rfl rfl B9.out (List.size_toArray.trans hz4.out) ?_)
        | ((with_reducible refine a0l 50 ?_);(refine a1c (o:=⟨some 50,_,_,_,_,_⟩) (v0:=b0r A.1 (wrap64 (Bn.1:Int)) C.1 D.1) (cells:=(a2a A.1 (wrap64 (Bn.1:Int)) C.1 D.1).toArray) rfl a6c rfl rfl (by decide) rfl (List.size_toArray.trans hz4.out) ?_);intro g50 w50 m50
           have R50:=hjd (show Rd w50 129 (.slice (some ⟨g50,0,none⟩) 1 1) 1 (a2a A.1 (wrap64 (Bn.1:Int)) C.1 D.1)from⟨_,_,rfl,by simpa using hz4.out,by simp,fun _=>⟨g50,0,rfl,fun j u hu=>by rw [m50.blk.cell,Nat.zero_add];simpa using hu⟩⟩)
           replace hK:=hjd (hK.out.a0g m50.kept)
           replace hX:=hjd (hX.out.a0o m50.kept)
           replace R4:=hjd (R4.out.a0o m50.kept)
           clear m50 B9)
        | (at_builtin;refine a1v a6c rfl (.tmp 48) (.tmp 50) rfl rfl (xs:=acc.flatMap uC) (n:=acc.length) (m:=1) (news:=a2a A.1 (wrap64 (Bn.1:Int)) C.1 D.1) hX.out rfl R50.out (fun x hx=>by have:=ho4.out;rw [Array.all_eq_true']at this;exact this x (by simpa using hx)) (by have:=hal.out;omega) (by have:=hal.out;omega) ?_
           intro x51 w51 o51 k51 b51
           have F51:=hjd (show∀k,x51.ownBlock=some k→w.heap.size≤k from fun k hk=>by
            rcases b51 with b | b
            ·exact hF.out k (b.symm.trans hk)
            ·have:=hK.out.size
             have e:=b.symm.trans hk
             cases e
             exact this)
           have R5:=hjd (show a6w w51 r D.2 from by
            obtain⟨v,hb,ho⟩:=R4.out
            exact⟨v,hb.kept k51 (fun h=>NR.out (Option.mem_toList.1 h)),ho.kept k51 (fun g hg hm=>ho.ne_ hX.out (by decide) g hg (Option.mem_toList.1 hm))⟩)
           replace hK:=hjd (hK.out.fresh k51 (fun k hk=>hF.out k (Option.mem_toList.1 hk)))
           have O51:=hjd (show Ow w51 104 129 x51 (acc ++ [(⟨A.1,(wrap64 (Bn.1:Int)),C.1,D.1⟩:Upd)]).length ((acc ++ [(⟨A.1,(wrap64 (Bn.1:Int)),C.1,D.1⟩:Upd)]).flatMap uC)from by simpa using o51)
           clear o51 k51 b51 R4))
       go_roundg m
       case measure=>omega
       case rel=>exact⟨D.2,acc ++ [⟨A.1,(wrap64 (Bn.1:Int)),C.1,D.1⟩],true,by omega,by go_num,rfl,R5,OD,hK,O51,F51,hjd (by rw [hE2.out];simp [hg2.out])⟩
      ·have hg2:=hjd (show ¬(64 < Bn.1)from by omega)
       have hwr:wrap64 (Bn.1:Int)=(Bn.1:Int):=IntWalk.wrap64_in _ (by omega)
       rw [hwr]at hE2 hz4 ho4
       clear hwr
       go_wp2_with (first
        | (go_at_call 70;(with_reducible refine(a4b r _ _ hR.out).mono ?_);rintro e v ⟨rfl,rfl⟩)
        | (go_at_call 71;(with_reducible refine(cA.out _ hR.out).mono ?_);rintro e v30 ⟨rfl,h30,k30⟩
           replace hR:=hjd trivial
           have R1:=hjd h30
           replace hK:=hjd (hK.out.fresh k30 (by simpa using LR.out))
           replace hX:=hjd (hX.out.kept k30 (fun k hk h=>NR.out (by rw [List.mem_singleton.1 h]at hk;exact hk)))
           clear h30 k30)
        | ((with_reducible refine a0l 31 ?_);refine a2s (o:=⟨some 31,_,_,_,_,_⟩) rfl 0 (.tmp 30) rfl rfl (a5z LA.out) ?_)
        | ((with_reducible refine a0l 8 ?_);(refine a0h (o:=⟨some 8,_,_,_,_,_⟩) rfl rfl a4a ?_);intro g8 w8 m8
           refine a0c (cs:=(a2a A.1 0 (a0e 32) (a0e 64)).toArray) (o:=⟨none,Op.store 104 (.tmp 8) (.tmp 31),_,_,_,_⟩) b0d rfl (.tmp 8) (.tmp 31) rfl rfl rfl m8.blk (List.size_toArray.trans hz0.out) (List.size_toArray.trans hz1.out) ho1.out ?_
           intro wb8 b8 k8
           have B8:=hjd b8
           have NG:=hjd (m8.ne R1.out.lt)
           have L8:=hjd (Nat.le_trans hK.out.size m8.le)
           have NX:=hjd (show∀k,(Value.slice XA acc.length xc).ownBlock=some k→k≠g8 from fun k hk=>m8.ne (hX.out.lt hk))
           have kk:=m8.kept.a0p k8 m8.le
           replace R1:=hjd (R1.out.a0o kk)
           replace hK:=hjd (hK.out.a0g kk)
           replace hX:=hjd (hX.out.a0o kk)
           clear m8 b8 k8 kk)
        | (go_at_call 72;(with_reducible refine(cB.out _ R1.out).mono ?_);rintro e v33 ⟨rfl,h33,k33⟩
           have R2:=hjd h33
           replace hK:=hjd (hK.out.fresh k33 (by simpa using LR.out))
           replace hX:=hjd (hX.out.kept k33 (fun k hk h=>NR.out (by rw [List.mem_singleton.1 h]at hk;exact hk)))
           replace B8:=hjd (B8.out.kept k33 (by simpa using fun h=>NG.out h.symm))
           clear h33 k33 R1)
        | (go_at_call 71;(with_reducible refine(cC.out _ R2.out).mono ?_);rintro e v42 ⟨rfl,h42,k42⟩
           have R3:=hjd h42
           replace hK:=hjd (hK.out.fresh k42 (by simpa using LR.out))
           replace hX:=hjd (hX.out.kept k42 (fun k hk h=>NR.out (by rw [List.mem_singleton.1 h]at hk;exact hk)))
           replace B8:=hjd (B8.out.kept k42 (by simpa using fun h=>NG.out h.symm))
           clear h42 k42 R2)
        | (go_at_call 73;(with_reducible refine(cD.out _ R3.out).mono ?_);rintro e v44 ⟨rfl,h44,k44⟩
           have R4:=hjd h44
           replace hK:=hjd (hK.out.fresh k44 (by simpa using LR.out))
           replace hX:=hjd (hX.out.kept k44 (fun k hk h=>NR.out (by rw [List.mem_singleton.1 h]at hk;exact hk)))
           replace B8:=hjd (B8.out.kept k44 (by simpa using fun h=>NG.out h.symm))
           have qv:=a2w L1.out B8.out
           have fz:=B8.out.frozen 32
           have BS:=hjd (a4e (v2:=(Bn.1:Int)) L1.out B8.out)
           clear h44 k44 R3)
        | (refine a1q (o:=⟨none,Op.store 22 (.tmp 46) (.tmp 42),_,_,_,_⟩) a2f.row rfl (.tmp 46) (.tmp 42) rfl rfl (pre:=bv A.1 ++ [Value.int .i64 (Bn.1:Int)]) (mid:=bv (a0e 32)) (post:=bv (a0e 64)) rfl (by have:=BS.out;simpa [a2a]using this) (by simp [LA.out]) (by simp) (by simpa using LC.out) (a1r _) ?_
           intro wk1 b1 k1
           have BK:=hjd (show Blk wk1 g8 104 (bv A.1 ++ (Value.int .i64 (Bn.1:Int) :: bv C.1) ++ bv (a0e 64) ++ []).toArray from by
            have e:bv A.1 ++ [Value.int .i64 (Bn.1:Int)] ++ bv C.1 ++ bv (a0e 64)=bv A.1 ++ (Value.int .i64 (Bn.1:Int) :: bv C.1) ++ bv (a0e 64) ++ []:=by simp
            rw [←e]
            exact b1)
           have KS:=hjd (((Kept.refl [g8] v44).setCell (p:=⟨g8,32,none⟩) (.inl (by simp)) (.int .i64 (Bn.1:Int))).trans' k1)
           clear b1 k1 qv fz)
        | (refine a1q (o:=⟨none,Op.store 32 (.tmp 47) (.tmp 44),_,_,_,_⟩) Q.b6f rfl (.tmp 47) (.tmp 44) rfl rfl (pre:=bv A.1 ++ (Value.int .i64 (Bn.1:Int) :: bv C.1)) (mid:=bv (a0e 64)) (post:=[]) rfl BK.out (by simp [LA.out,LC.out]) (by simp) (by simpa using LD.out) (a1r _) ?_
           intro wk2 b2 k2
           have B9:=hjd (show Blk wk2 g8 104 (a2a A.1 (Bn.1:Int) C.1 D.1).toArray from by rw [←a2x];exact b2)
           have KT:=KS.out.trans' k2
           replace hK:=hjd (hK.out.fresh KT (by simpa using L8.out))
           replace hX:=hjd (hX.out.kept KT (fun k hk h=>NX.out k hk (List.mem_singleton.1 h)))
           replace R4:=hjd (R4.out.a5x KT B8.out (by decide) NG.out)
           clear b2 k2 KT KS BK BS B8)
        | ((with_reducible refine a0l 49 ?_);refine a0d (cs:=(a2a A.1 (Bn.1:Int) C.1 D.1).toArray) (o:=⟨some 49,_,_,_,_,_⟩) b0d rfl (.tmp 8) rfl rfl B9.out (List.size_toArray.trans hz4.out) ?_)
        | ((with_reducible refine a0l 50 ?_);(refine a1c (o:=⟨some 50,_,_,_,_,_⟩) (v0:=b0r A.1 (Bn.1:Int) C.1 D.1) (cells:=(a2a A.1 (Bn.1:Int) C.1 D.1).toArray) rfl a6c rfl rfl (by decide) rfl (List.size_toArray.trans hz4.out) ?_);intro g50 w50 m50
           have R50:=hjd (show Rd w50 129 (.slice (some ⟨g50,0,none⟩) 1 1) 1 (a2a A.1 (Bn.1:Int) C.1 D.1)from⟨_,_,rfl,by simpa using hz4.out,by simp,fun _=>⟨g50,0,rfl,fun j u hu=>by rw [m50.blk.cell,Nat.zero_add];simpa using hu⟩⟩)
           replace hK:=hjd (hK.out.a0g m50.kept)
           replace hX:=hjd (hX.out.a0o m50.kept)
           replace R4:=hjd (R4.out.a0o m50.kept)
           clear m50 B9)
        | (at_builtin;refine a1v a6c rfl (.tmp 48) (.tmp 50) rfl rfl (xs:=acc.flatMap uC) (n:=acc.length) (m:=1) (news:=a2a A.1 (Bn.1:Int) C.1 D.1) hX.out rfl R50.out (fun x hx=>by have:=ho4.out;rw [Array.all_eq_true']at this;exact this x (by simpa using hx)) (by have:=hal.out;omega) (by have:=hal.out;omega) ?_
           intro x51 w51 o51 k51 b51
           have F51:=hjd (show∀k,x51.ownBlock=some k→w.heap.size≤k from fun k hk=>by
            rcases b51 with b | b
            ·exact hF.out k (b.symm.trans hk)
            ·have:=hK.out.size
             have e:=b.symm.trans hk
             cases e
             exact this)
           have R5:=hjd (show a6w w51 r D.2 from by
            obtain⟨v,hb,ho⟩:=R4.out
            exact⟨v,hb.kept k51 (fun h=>NR.out (Option.mem_toList.1 h)),ho.kept k51 (fun g hg hm=>ho.ne_ hX.out (by decide) g hg (Option.mem_toList.1 hm))⟩)
           replace hK:=hjd (hK.out.fresh k51 (fun k hk=>hF.out k (Option.mem_toList.1 hk)))
           have O51:=hjd (show Ow w51 104 129 x51 (acc ++ [(⟨A.1,(Bn.1:Int),C.1,D.1⟩:Upd)]).length ((acc ++ [(⟨A.1,(Bn.1:Int),C.1,D.1⟩:Upd)]).flatMap uC)from by simpa using o51)
           clear o51 k51 b51 R4))
       go_roundg m
       case measure=>omega
       case rel=>exact⟨D.2,acc ++ [⟨A.1,(Bn.1:Int),C.1,D.1⟩],false,by omega,by go_num,(by rw [decide_eq_false (show ¬((64:Int) < (Bn.1:Int))from by omega)]),R5,OD,hK,O51,F51,hjd (by rw [hE2.out];simp [hg2.out])⟩
  ·by_cases hz:gk=0
   ·subst hz
    replace hE:=hjd (show PA=(acc,fm,s)from by rw [hE.out];simp [a2r])
    replace h0:=hjd h0
    have e:PU=([],11):=by rw [HP.out,hE.out];simp [hd]
    replace e:=hjd e
    go_wp2_with (first
     | (go_at_call 70;(with_reducible refine(a4b r _ _ hR.out).mono ?_);rintro e v ⟨rfl,rfl⟩))
    go_ret2
    refine⟨.slice none 0 0,?_,?_,hK.out⟩
    ·rw [hPU.out,e.out]
     rfl
    ·rw [hPU.out,e.out]
     exact Rd.nil _ _
   ·obtain⟨m,rfl⟩:∃m,gk=m + 1:=⟨gk - 1,by omega⟩
    have hE2:=hjd (show PA=(acc ++ (a2r (m + 1) s).1,fm || (a2r (m + 1) s).2.1,(a2r (m + 1) s).2.2)from hE.out)
    rw [a7l h0]at hE2
    have OA:=hjd (a5p (n:=32) hO.out)
    have LA:=hjd (a3h 32 s)
    have cA:=hjd (fun W (h:a6w W r s)=>a5v r s W h)
    generalize a3w 32 s=A at *
    have OB:=hjd (b5w OA.out)
    have cB:=hjd (fun W (h:a6w W r A.2)=>b0g r A.2 W h)
    have lB:=b4h A.2
    generalize a8i A.2=Bn at *
    have OC:=hjd (a5p (n:=32) OB.out)
    have LC:=hjd (a3h 32 Bn.2)
    have cC:=hjd (fun W (h:a6w W r Bn.2)=>a5v r Bn.2 W h)
    generalize a3w 32 Bn.2=C at *
    have OD:=hjd (a5p (n:=64) OC.out)
    have LD:=hjd (a3h 64 C.2)
    have cD:=hjd (fun W (h:a6w W r C.2)=>d2i r C.2 W h)
    generalize a3w 64 C.2=D at *
    clear hO hE
    replace h0:=hjd h0
    have hpos:(0:Int) < (m:Int) + 1:=by omega
    have hal:=hjd (show acc.length≤65536 from by
     have:=HL.out
     rw [hE2.out]at this
     simp at this
     omega)
    have NR:=hjd (show(Value.slice XA acc.length xc).ownBlock≠some r from by
     obtain⟨v,hb,_⟩:=hR.out
     exact hX.out.a4n hb (by decide))
    have L1:=hjd (show UpL A.1 (a0e 32) (a0e 64)from⟨LA.out,rfl,rfl⟩)
    have L4:=hjd (show UpL A.1 C.1 D.1 from⟨LA.out,LC.out,LD.out⟩)
    have hz1:=hjd (a3g (ver:=0) L1.out)
    have hz4:=hjd (a3g (ver:=(wrap64 (Bn.1:Int))) L4.out)
    have ho1:=hjd (a7x (id:=A.1) (key:=a0e 32) (sig:=a0e 64) (ver:=0))
    have ho4:=hjd (a7x (id:=A.1) (key:=C.1) (sig:=D.1) (ver:=(wrap64 (Bn.1:Int))))
    cases fm with
    | true=>
      go_wp2_with (first
       | (go_at_call 70;(with_reducible refine(a4b r _ _ hR.out).mono ?_);rintro e v ⟨rfl,rfl⟩)
       | (go_at_call 71;(with_reducible refine(cA.out _ hR.out).mono ?_);rintro e v30 ⟨rfl,h30,k30⟩
          replace hR:=hjd trivial
          have R1:=hjd h30
          replace hK:=hjd (hK.out.fresh k30 (by simpa using LR.out))
          replace hX:=hjd (hX.out.kept k30 (fun k hk h=>NR.out (by rw [List.mem_singleton.1 h]at hk;exact hk)))
          clear h30 k30)
       | ((with_reducible refine a0l 31 ?_);refine a2s (o:=⟨some 31,_,_,_,_,_⟩) rfl 0 (.tmp 30) rfl rfl (a5z LA.out) ?_)
       | ((with_reducible refine a0l 8 ?_);(refine a0h (o:=⟨some 8,_,_,_,_,_⟩) rfl rfl a4a ?_);intro g8 w8 m8
          refine a0c (cs:=(a2a A.1 0 (a0e 32) (a0e 64)).toArray) (o:=⟨none,Op.store 104 (.tmp 8) (.tmp 31),_,_,_,_⟩) b0d rfl (.tmp 8) (.tmp 31) rfl rfl rfl m8.blk (List.size_toArray.trans hz0.out) (List.size_toArray.trans hz1.out) ho1.out ?_
          intro wb8 b8 k8
          have B8:=hjd b8
          have NG:=hjd (m8.ne R1.out.lt)
          have L8:=hjd (Nat.le_trans hK.out.size m8.le)
          have NX:=hjd (show∀k,(Value.slice XA acc.length xc).ownBlock=some k→k≠g8 from fun k hk=>m8.ne (hX.out.lt hk))
          have kk:=m8.kept.a0p k8 m8.le
          replace R1:=hjd (R1.out.a0o kk)
          replace hK:=hjd (hK.out.a0g kk)
          replace hX:=hjd (hX.out.a0o kk)
          clear m8 b8 k8 kk)
       | (go_at_call 72;(with_reducible refine(cB.out _ R1.out).mono ?_);rintro e v33 ⟨rfl,h33,k33⟩
          have R2:=hjd h33
          replace hK:=hjd (hK.out.fresh k33 (by simpa using LR.out))
          replace hX:=hjd (hX.out.kept k33 (fun k hk h=>NR.out (by rw [List.mem_singleton.1 h]at hk;exact hk)))
          replace B8:=hjd (B8.out.kept k33 (by simpa using fun h=>NG.out h.symm))
          clear h33 k33 R1)
       | (go_at_call 71;(with_reducible refine(cC.out _ R2.out).mono ?_);rintro e v42 ⟨rfl,h42,k42⟩
          have R3:=hjd h42
          replace hK:=hjd (hK.out.fresh k42 (by simpa using LR.out))
          replace hX:=hjd (hX.out.kept k42 (fun k hk h=>NR.out (by rw [List.mem_singleton.1 h]at hk;exact hk)))
          replace B8:=hjd (B8.out.kept k42 (by simpa using fun h=>NG.out h.symm))
          clear h42 k42 R2)
       | (go_at_call 73;(with_reducible refine(cD.out _ R3.out).mono ?_);rintro e v44 ⟨rfl,h44,k44⟩
          have R4:=hjd h44
          replace hK:=hjd (hK.out.fresh k44 (by simpa using LR.out))
          replace hX:=hjd (hX.out.kept k44 (fun k hk h=>NR.out (by rw [List.mem_singleton.1 h]at hk;exact hk)))
          replace B8:=hjd (B8.out.kept k44 (by simpa using fun h=>NG.out h.symm))
          have qv:=a2w L1.out B8.out
          have fz:=B8.out.frozen 32
          have BS:=hjd (a4e (v2:=(wrap64 (Bn.1:Int))) L1.out B8.out)
          clear h44 k44 R3)
       | (refine a1q (o:=⟨none,Op.store 22 (.tmp 46) (.tmp 42),_,_,_,_⟩) a2f.row rfl (.tmp 46) (.tmp 42) rfl rfl (pre:=bv A.1 ++ [Value.int .i64 (wrap64 (Bn.1:Int))]) (mid:=bv (a0e 32)) (post:=bv (a0e 64)) rfl (by have:=BS.out;simpa [a2a]using this) (by simp [LA.out]) (by simp) (by simpa using LC.out) (a1r _) ?_
          intro wk1 b1 k1
          have BK:=hjd (show Blk wk1 g8 104 (bv A.1 ++ (Value.int .i64 (wrap64 (Bn.1:Int)) :: bv C.1) ++ bv (a0e 64) ++ []).toArray from by
           have e:bv A.1 ++ [Value.int .i64 (wrap64 (Bn.1:Int))] ++ bv C.1 ++ bv (a0e 64)=bv A.1 ++ (Value.int .i64 (wrap64 (Bn.1:Int)) :: bv C.1) ++ bv (a0e 64) ++ []:=by simp
           rw [←e]
           exact b1)
          have KS:=hjd (((Kept.refl [g8] v44).setCell (p:=⟨g8,32,none⟩) (.inl (by simp)) (.int .i64 (wrap64 (Bn.1:Int)))).trans' k1)
          clear b1 k1 qv fz)
       | (refine a1q (o:=⟨none,Op.store 32 (.tmp 47) (.tmp 44),_,_,_,_⟩) Q.b6f rfl (.tmp 47) (.tmp 44) rfl rfl (pre:=bv A.1 ++ (Value.int .i64 (wrap64 (Bn.1:Int)) :: bv C.1)) (mid:=bv (a0e 64)) (post:=[]) rfl BK.out (by simp [LA.out,LC.out]) (by simp) (by simpa using LD.out) (a1r _) ?_
          intro wk2 b2 k2
          have B9:=hjd (show Blk wk2 g8 104 (a2a A.1 (wrap64 (Bn.1:Int)) C.1 D.1).toArray from by rw [←a2x];exact b2)
          have KT:=KS.out.trans' k2
          replace hK:=hjd (hK.out.fresh KT (by simpa using L8.out))
          replace hX:=hjd (hX.out.kept KT (fun k hk h=>NX.out k hk (List.mem_singleton.1 h)))
          replace R4:=hjd (R4.out.a5x KT B8.out (by decide) NG.out)
          clear b2 k2 KT KS BK BS B8)
       | ((with_reducible refine a0l 49 ?_);refine a0d (cs:=(a2a A.1 (wrap64 (Bn.1:Int)) C.1 D.1).toArray) (o:=⟨some 49,_,_,_,_,_⟩) b0d rfl (.tmp 8) rfl rfl B9.out (List.size_toArray.trans hz4.out) ?_)
       | ((with_reducible refine a0l 50 ?_);(refine a1c (o:=⟨some 50,_,_,_,_,_⟩) (v0:=b0r A.1 (wrap64 (Bn.1:Int)) C.1 D.1) (cells:=(a2a A.1 (wrap64 (Bn.1:Int)) C.1 D.1).toArray) rfl a6c rfl rfl (by decide) rfl (List.size_toArray.trans hz4.out) ?_);intro g50 w50 m50
          have R50:=hjd (show Rd w50 129 (.slice (some ⟨g50,0,none⟩) 1 1) 1 (a2a A.1 (wrap64 (Bn.1:Int)) C.1 D.1)from⟨_,_,rfl,by simpa using hz4.out,by simp,fun _=>⟨g50,0,rfl,fun j u hu=>by rw [m50.blk.cell,Nat.zero_add];simpa using hu⟩⟩)
          replace hK:=hjd (hK.out.a0g m50.kept)
          replace hX:=hjd (hX.out.a0o m50.kept)
          replace R4:=hjd (R4.out.a0o m50.kept)
          clear m50 B9)
       | (at_builtin;refine a1v a6c rfl (.tmp 48) (.tmp 50) rfl rfl (xs:=acc.flatMap uC) (n:=acc.length) (m:=1) (news:=a2a A.1 (wrap64 (Bn.1:Int)) C.1 D.1) hX.out rfl R50.out (fun x hx=>by have:=ho4.out;rw [Array.all_eq_true']at this;exact this x (by simpa using hx)) (by have:=hal.out;omega) (by have:=hal.out;omega) ?_
          intro x51 w51 o51 k51 b51
          have F51:=hjd (show∀k,x51.ownBlock=some k→w.heap.size≤k from fun k hk=>by
           rcases b51 with b | b
           ·exact hF.out k (b.symm.trans hk)
           ·have:=hK.out.size
            have e:=b.symm.trans hk
            cases e
            exact this)
          have R5:=hjd (show a6w w51 r D.2 from by
           obtain⟨v,hb,ho⟩:=R4.out
           exact⟨v,hb.kept k51 (fun h=>NR.out (Option.mem_toList.1 h)),ho.kept k51 (fun g hg hm=>ho.ne_ hX.out (by decide) g hg (Option.mem_toList.1 hm))⟩)
          replace hK:=hjd (hK.out.fresh k51 (fun k hk=>hF.out k (Option.mem_toList.1 hk)))
          have O51:=hjd (show Ow w51 104 129 x51 (acc ++ [(⟨A.1,(wrap64 (Bn.1:Int)),C.1,D.1⟩:Upd)]).length ((acc ++ [(⟨A.1,(wrap64 (Bn.1:Int)),C.1,D.1⟩:Upd)]).flatMap uC)from by simpa using o51)
          clear o51 k51 b51 R4))
      go_roundg m
      case measure=>omega
      case rel=>exact⟨D.2,acc ++ [⟨A.1,(wrap64 (Bn.1:Int)),C.1,D.1⟩],true,by omega,by go_num,rfl,R5,OD,hK,O51,F51,hjd (by rw [hE2.out];simp [])⟩
    | false=>
      by_cases hgt:(64:Int) < (Bn.1:Int)
      ·have hg2:=hjd (show 64 < Bn.1 from by omega)
       go_wp2_with (first
        | (go_at_call 70;(with_reducible refine(a4b r _ _ hR.out).mono ?_);rintro e v ⟨rfl,rfl⟩)
        | (go_at_call 71;(with_reducible refine(cA.out _ hR.out).mono ?_);rintro e v30 ⟨rfl,h30,k30⟩
           replace hR:=hjd trivial
           have R1:=hjd h30
           replace hK:=hjd (hK.out.fresh k30 (by simpa using LR.out))
           replace hX:=hjd (hX.out.kept k30 (fun k hk h=>NR.out (by rw [List.mem_singleton.1 h]at hk;exact hk)))
           clear h30 k30)
        | ((with_reducible refine a0l 31 ?_);refine a2s (o:=⟨some 31,_,_,_,_,_⟩) rfl 0 (.tmp 30) rfl rfl (a5z LA.out) ?_)
        | ((with_reducible refine a0l 8 ?_);(refine a0h (o:=⟨some 8,_,_,_,_,_⟩) rfl rfl a4a ?_);intro g8 w8 m8
           refine a0c (cs:=(a2a A.1 0 (a0e 32) (a0e 64)).toArray) (o:=⟨none,Op.store 104 (.tmp 8) (.tmp 31),_,_,_,_⟩) b0d rfl (.tmp 8) (.tmp 31) rfl rfl rfl m8.blk (List.size_toArray.trans hz0.out) (List.size_toArray.trans hz1.out) ho1.out ?_
           intro wb8 b8 k8
           have B8:=hjd b8
           have NG:=hjd (m8.ne R1.out.lt)
           have L8:=hjd (Nat.le_trans hK.out.size m8.le)
           have NX:=hjd (show∀k,(Value.slice XA acc.length xc).ownBlock=some k→k≠g8 from fun k hk=>m8.ne (hX.out.lt hk))
           have kk:=m8.kept.a0p k8 m8.le
           replace R1:=hjd (R1.out.a0o kk)
           replace hK:=hjd (hK.out.a0g kk)
           replace hX:=hjd (hX.out.a0o kk)
           clear m8 b8 k8 kk)
        | (go_at_call 72;(with_reducible refine(cB.out _ R1.out).mono ?_);rintro e v33 ⟨rfl,h33,k33⟩
           have R2:=hjd h33
           replace hK:=hjd (hK.out.fresh k33 (by simpa using LR.out))
           replace hX:=hjd (hX.out.kept k33 (fun k hk h=>NR.out (by rw [List.mem_singleton.1 h]at hk;exact hk)))
           replace B8:=hjd (B8.out.kept k33 (by simpa using fun h=>NG.out h.symm))
           clear h33 k33 R1)
        | (go_at_call 71;(with_reducible refine(cC.out _ R2.out).mono ?_);rintro e v42 ⟨rfl,h42,k42⟩
           have R3:=hjd h42
           replace hK:=hjd (hK.out.fresh k42 (by simpa using LR.out))
           replace hX:=hjd (hX.out.kept k42 (fun k hk h=>NR.out (by rw [List.mem_singleton.1 h]at hk;exact hk)))
           replace B8:=hjd (B8.out.kept k42 (by simpa using fun h=>NG.out h.symm))
           clear h42 k42 R2)
        | (go_at_call 73;(with_reducible refine(cD.out _ R3.out).mono ?_);rintro e v44 ⟨rfl,h44,k44⟩
           have R4:=hjd h44
           replace hK:=hjd (hK.out.fresh k44 (by simpa using LR.out))
           replace hX:=hjd (hX.out.kept k44 (fun k hk h=>NR.out (by rw [List.mem_singleton.1 h]at hk;exact hk)))
           replace B8:=hjd (B8.out.kept k44 (by simpa using fun h=>NG.out h.symm))
           have qv:=a2w L1.out B8.out
           have fz:=B8.out.frozen 32
           have BS:=hjd (a4e (v2:=(wrap64 (Bn.1:Int))) L1.out B8.out)
           clear h44 k44 R3)
        | (refine a1q (o:=⟨none,Op.store 22 (.tmp 46) (.tmp 42),_,_,_,_⟩) a2f.row rfl (.tmp 46) (.tmp 42) rfl rfl (pre:=bv A.1 ++ [Value.int .i64 (wrap64 (Bn.1:Int))]) (mid:=bv (a0e 32)) (post:=bv (a0e 64)) rfl (by have:=BS.out;simpa [a2a]using this) (by simp [LA.out]) (by simp) (by simpa using LC.out) (a1r _) ?_
           intro wk1 b1 k1
           have BK:=hjd (show Blk wk1 g8 104 (bv A.1 ++ (Value.int .i64 (wrap64 (Bn.1:Int)) :: bv C.1) ++ bv (a0e 64) ++ []).toArray from by
            have e:bv A.1 ++ [Value.int .i64 (wrap64 (Bn.1:Int))] ++ bv C.1 ++ bv (a0e 64)=bv A.1 ++ (Value.int .i64 (wrap64 (Bn.1:Int)) :: bv C.1) ++ bv (a0e 64) ++ []:=by simp
            rw [←e]
            exact b1)
           have KS:=hjd (((Kept.refl [g8] v44).setCell (p:=⟨g8,32,none⟩) (.inl (by simp)) (.int .i64 (wrap64 (Bn.1:Int)))).trans' k1)
           clear b1 k1 qv fz)
        | (refine a1q (o:=⟨none,Op.store 32 (.tmp 47) (.tmp 44),_,_,_,_⟩) Q.b6f rfl (.tmp 47) (.tmp 44) rfl rfl (pre:=bv A.1 ++ (Value.int .i64 (wrap64 (Bn.1:Int)) :: bv C.1)) (mid:=bv (a0e 64)) (post:=[]) rfl BK.out (by simp [LA.out,LC.out]) (by simp) (by simpa using LD.out) (a1r _) ?_
           intro wk2 b2 k2
           have B9:=hjd (show Blk wk2 g8 104 (a2a A.1 (wrap64 (Bn.1:Int)) C.1 D.1).toArray from by rw [←a2x];exact b2)
           have KT:=KS.out.trans' k2
           replace hK:=hjd (hK.out.fresh KT (by simpa using L8.out))
           replace hX:=hjd (hX.out.kept KT (fun k hk h=>NX.out k hk (List.mem_singleton.1 h)))
           replace R4:=hjd (R4.out.a5x KT B8.out (by decide) NG.out)
           clear b2 k2 KT KS BK BS B8)
        | ((with_reducible refine a0l 49 ?_);refine a0d (cs:=(a2a A.1 (wrap64 (Bn.1:Int)) C.1 D.1).toArray) (o:=⟨some 49,_,_,_,_,_⟩) b0d rfl (.tmp 8) rfl rfl B9.out (List.size_toArray.trans hz4.out) ?_)
        | ((with_reducible refine a0l 50 ?_);(refine a1c (o:=⟨some 50,_,_,_,_,_⟩) (v0:=b0r A.1 (wrap64 (Bn.1:Int)) C.1 D.1) (cells:=(a2a A.1 (wrap64 (Bn.1:Int)) C.1 D.1).toArray) rfl a6c rfl rfl (by decide) rfl (List.size_toArray.trans hz4.out) ?_);intro g50 w50 m50
           have R50:=hjd (show Rd w50 129 (.slice (some ⟨g50,0,none⟩) 1 1) 1 (a2a A.1 (wrap64 (Bn.1:Int)) C.1 D.1)from⟨_,_,rfl,by simpa using hz4.out,by simp,fun _=>⟨g50,0,rfl,fun j u hu=>by rw [m50.blk.cell,Nat.zero_add];simpa using hu⟩⟩)
           replace hK:=hjd (hK.out.a0g m50.kept)
           replace hX:=hjd (hX.out.a0o m50.kept)
           replace R4:=hjd (R4.out.a0o m50.kept)
           clear m50 B9)
        | (at_builtin;refine a1v a6c rfl (.tmp 48) (.tmp 50) rfl rfl (xs:=acc.flatMap uC) (n:=acc.length) (m:=1) (news:=a2a A.1 (wrap64 (Bn.1:Int)) C.1 D.1) hX.out rfl R50.out (fun x hx=>by have:=ho4.out;rw [Array.all_eq_true']at this;exact this x (by simpa using hx)) (by have:=hal.out;omega) (by have:=hal.out;omega) ?_
           intro x51 w51 o51 k51 b51
           have F51:=hjd (show∀k,x51.ownBlock=some k→w.heap.size≤k from fun k hk=>by
            rcases b51 with b | b
            ·exact hF.out k (b.symm.trans hk)
            ·have:=hK.out.size
             have e:=b.symm.trans hk
             cases e
             exact this)
           have R5:=hjd (show a6w w51 r D.2 from by
            obtain⟨v,hb,ho⟩:=R4.out
            exact⟨v,hb.kept k51 (fun h=>NR.out (Option.mem_toList.1 h)),ho.kept k51 (fun g hg hm=>ho.ne_ hX.out (by decide) g hg (Option.mem_toList.1 hm))⟩)
           replace hK:=hjd (hK.out.fresh k51 (fun k hk=>hF.out k (Option.mem_toList.1 hk)))
           have O51:=hjd (show Ow w51 104 129 x51 (acc ++ [(⟨A.1,(wrap64 (Bn.1:Int)),C.1,D.1⟩:Upd)]).length ((acc ++ [(⟨A.1,(wrap64 (Bn.1:Int)),C.1,D.1⟩:Upd)]).flatMap uC)from by simpa using o51)
           clear o51 k51 b51 R4))
       go_roundg m
       case measure=>omega
       case rel=>exact⟨D.2,acc ++ [⟨A.1,(wrap64 (Bn.1:Int)),C.1,D.1⟩],true,by omega,by go_num,rfl,R5,OD,hK,O51,F51,hjd (by rw [hE2.out];simp [hg2.out])⟩
      ·have hg2:=hjd (show ¬(64 < Bn.1)from by omega)
       have hwr:wrap64 (Bn.1:Int)=(Bn.1:Int):=IntWalk.wrap64_in _ (by omega)
       rw [hwr]at hE2 hz4 ho4
       clear hwr
       go_wp2_with (first
        | (go_at_call 70;(with_reducible refine(a4b r _ _ hR.out).mono ?_);rintro e v ⟨rfl,rfl⟩)
        | (go_at_call 71;(with_reducible refine(cA.out _ hR.out).mono ?_);rintro e v30 ⟨rfl,h30,k30⟩
           replace hR:=hjd trivial
           have R1:=hjd h30
           replace hK:=hjd (hK.out.fresh k30 (by simpa using LR.out))
           replace hX:=hjd (hX.out.kept k30 (fun k hk h=>NR.out (by rw [List.mem_singleton.1 h]at hk;exact hk)))
           clear h30 k30)
        | ((with_reducible refine a0l 31 ?_);refine a2s (o:=⟨some 31,_,_,_,_,_⟩) rfl 0 (.tmp 30) rfl rfl (a5z LA.out) ?_)
        | ((with_reducible refine a0l 8 ?_);(refine a0h (o:=⟨some 8,_,_,_,_,_⟩) rfl rfl a4a ?_);intro g8 w8 m8
           refine a0c (cs:=(a2a A.1 0 (a0e 32) (a0e 64)).toArray) (o:=⟨none,Op.store 104 (.tmp 8) (.tmp 31),_,_,_,_⟩) b0d rfl (.tmp 8) (.tmp 31) rfl rfl rfl m8.blk (List.size_toArray.trans hz0.out) (List.size_toArray.trans hz1.out) ho1.out ?_
           intro wb8 b8 k8
           have B8:=hjd b8
           have NG:=hjd (m8.ne R1.out.lt)
           have L8:=hjd (Nat.le_trans hK.out.size m8.le)
           have NX:=hjd (show∀k,(Value.slice XA acc.length xc).ownBlock=some k→k≠g8 from fun k hk=>m8.ne (hX.out.lt hk))
           have kk:=m8.kept.a0p k8 m8.le
           replace R1:=hjd (R1.out.a0o kk)
           replace hK:=hjd (hK.out.a0g kk)
           replace hX:=hjd (hX.out.a0o kk)
           clear m8 b8 k8 kk)
        | (go_at_call 72;(with_reducible refine(cB.out _ R1.out).mono ?_);rintro e v33 ⟨rfl,h33,k33⟩
           have R2:=hjd h33
           replace hK:=hjd (hK.out.fresh k33 (by simpa using LR.out))
           replace hX:=hjd (hX.out.kept k33 (fun k hk h=>NR.out (by rw [List.mem_singleton.1 h]at hk;exact hk)))
           replace B8:=hjd (B8.out.kept k33 (by simpa using fun h=>NG.out h.symm))
           clear h33 k33 R1)
        | (go_at_call 71;(with_reducible refine(cC.out _ R2.out).mono ?_);rintro e v42 ⟨rfl,h42,k42⟩
           have R3:=hjd h42
           replace hK:=hjd (hK.out.fresh k42 (by simpa using LR.out))
           replace hX:=hjd (hX.out.kept k42 (fun k hk h=>NR.out (by rw [List.mem_singleton.1 h]at hk;exact hk)))
           replace B8:=hjd (B8.out.kept k42 (by simpa using fun h=>NG.out h.symm))
           clear h42 k42 R2)
        | (go_at_call 73;(with_reducible refine(cD.out _ R3.out).mono ?_);rintro e v44 ⟨rfl,h44,k44⟩
           have R4:=hjd h44
           replace hK:=hjd (hK.out.fresh k44 (by simpa using LR.out))
           replace hX:=hjd (hX.out.kept k44 (fun k hk h=>NR.out (by rw [List.mem_singleton.1 h]at hk;exact hk)))
           replace B8:=hjd (B8.out.kept k44 (by simpa using fun h=>NG.out h.symm))
           have qv:=a2w L1.out B8.out
           have fz:=B8.out.frozen 32
           have BS:=hjd (a4e (v2:=(Bn.1:Int)) L1.out B8.out)
           clear h44 k44 R3)
        | (refine a1q (o:=⟨none,Op.store 22 (.tmp 46) (.tmp 42),_,_,_,_⟩) a2f.row rfl (.tmp 46) (.tmp 42) rfl rfl (pre:=bv A.1 ++ [Value.int .i64 (Bn.1:Int)]) (mid:=bv (a0e 32)) (post:=bv (a0e 64)) rfl (by have:=BS.out;simpa [a2a]using this) (by simp [LA.out]) (by simp) (by simpa using LC.out) (a1r _) ?_
           intro wk1 b1 k1
           have BK:=hjd (show Blk wk1 g8 104 (bv A.1 ++ (Value.int .i64 (Bn.1:Int) :: bv C.1) ++ bv (a0e 64) ++ []).toArray from by
            have e:bv A.1 ++ [Value.int .i64 (Bn.1:Int)] ++ bv C.1 ++ bv (a0e 64)=bv A.1 ++ (Value.int .i64 (Bn.1:Int) :: bv C.1) ++ bv (a0e 64) ++ []:=by simp
            rw [←e]
            exact b1)
           have KS:=hjd (((Kept.refl [g8] v44).setCell (p:=⟨g8,32,none⟩) (.inl (by simp)) (.int .i64 (Bn.1:Int))).trans' k1)
           clear b1 k1 qv fz)
        | (refine a1q (o:=⟨none,Op.store 32 (.tmp 47) (.tmp 44),_,_,_,_⟩) Q.b6f rfl (.tmp 47) (.tmp 44) rfl rfl (pre:=bv A.1 ++ (Value.int .i64 (Bn.1:Int) :: bv C.1)) (mid:=bv (a0e 64)) (post:=[]) rfl BK.out (by simp [LA.out,LC.out]) (by simp) (by simpa using LD.out) (a1r _) ?_
           intro wk2 b2 k2
           have B9:=hjd (show Blk wk2 g8 104 (a2a A.1 (Bn.1:Int) C.1 D.1).toArray from by rw [←a2x];exact b2)
           have KT:=KS.out.trans' k2
           replace hK:=hjd (hK.out.fresh KT (by simpa using L8.out))
           replace hX:=hjd (hX.out.kept KT (fun k hk h=>NX.out k hk (List.mem_singleton.1 h)))
           replace R4:=hjd (R4.out.a5x KT B8.out (by decide) NG.out)
           clear b2 k2 KT KS BK BS B8)
        | ((with_reducible refine a0l 49 ?_);refine a0d (cs:=(a2a A.1 (Bn.1:Int) C.1 D.1).toArray) (o:=⟨some 49,_,_,_,_,_⟩) b0d rfl (.tmp 8) rfl rfl B9.out (List.size_toArray.trans hz4.out) ?_)
        | ((with_reducible refine a0l 50 ?_);(refine a1c (o:=⟨some 50,_,_,_,_,_⟩) (v0:=b0r A.1 (Bn.1:Int) C.1 D.1) (cells:=(a2a A.1 (Bn.1:Int) C.1 D.1).toArray) rfl a6c rfl rfl (by decide) rfl (List.size_toArray.trans hz4.out) ?_);intro g50 w50 m50
           have R50:=hjd (show Rd w50 129 (.slice (some ⟨g50,0,none⟩) 1 1) 1 (a2a A.1 (Bn.1:Int) C.1 D.1)from⟨_,_,rfl,by simpa using hz4.out,by simp,fun _=>⟨g50,0,rfl,fun j u hu=>by rw [m50.blk.cell,Nat.zero_add];simpa using hu⟩⟩)
           replace hK:=hjd (hK.out.a0g m50.kept)
           replace hX:=hjd (hX.out.a0o m50.kept)
           replace R4:=hjd (R4.out.a0o m50.kept)
           clear m50 B9)
        | (at_builtin;refine a1v a6c rfl (.tmp 48) (.tmp 50) rfl rfl (xs:=acc.flatMap uC) (n:=acc.length) (m:=1) (news:=a2a A.1 (Bn.1:Int) C.1 D.1) hX.out rfl R50.out (fun x hx=>by have:=ho4.out;rw [Array.all_eq_true']at this;exact this x (by simpa using hx)) (by have:=hal.out;omega) (by have:=hal.out;omega) ?_
           intro x51 w51 o51 k51 b51
           have F51:=hjd (show∀k,x51.ownBlock=some k→w.heap.size≤k from fun k hk=>by
            rcases b51 with b | b
            ·exact hF.out k (b.symm.trans hk)
            ·have:=hK.out.size
             have e:=b.symm.trans hk
             cases e
             exact this)
           have R5:=hjd (show a6w w51 r D.2 from by
            obtain⟨v,hb,ho⟩:=R4.out
            exact⟨v,hb.kept k51 (fun h=>NR.out (Option.mem_toList.1 h)),ho.kept k51 (fun g hg hm=>ho.ne_ hX.out (by decide) g hg (Option.mem_toList.1 hm))⟩)
           replace hK:=hjd (hK.out.fresh k51 (fun k hk=>hF.out k (Option.mem_toList.1 hk)))
           have O51:=hjd (show Ow w51 104 129 x51 (acc ++ [(⟨A.1,(Bn.1:Int),C.1,D.1⟩:Upd)]).length ((acc ++ [(⟨A.1,(Bn.1:Int),C.1,D.1⟩:Upd)]).flatMap uC)from by simpa using o51)
           clear o51 k51 b51 R4))
       go_roundg m
       case measure=>omega
       case rel=>exact⟨D.2,acc ++ [⟨A.1,(Bn.1:Int),C.1,D.1⟩],false,by omega,by go_num,(by rw [decide_eq_false (show ¬((64:Int) < (Bn.1:Int))from by omega)]),R5,OD,hK,O51,F51,hjd (by rw [hE2.out];simp [hg2.out])⟩
  ·by_cases hz:gk=0
   ·subst hz
    replace hE:=hjd (show PA=(acc,fm,s)from by rw [hE.out];simp [a2r])
    replace h0:=hjd h0
    have e:PU=([],10):=by rw [HP.out,hE.out];simp [hd]
    replace e:=hjd e
    go_wp2_with (first
     | (go_at_call 70;(with_reducible refine(a4b r _ _ hR.out).mono ?_);rintro e v ⟨rfl,rfl⟩))
    go_ret2
    refine⟨.slice none 0 0,?_,?_,hK.out⟩
    ·rw [hPU.out,e.out]
     rfl
    ·rw [hPU.out,e.out]
     exact Rd.nil _ _
   ·have hpos:(0:Int) < (gk:Int):=by omega
    replace hE:=hjd (show PA=(acc,fm,s)from by rw [hE.out,a8v _ h0];simp)
    replace h0:=hjd h0
    have e:PU=([],10):=by rw [HP.out,hE.out];simp [hd]
    replace e:=hjd e
    go_wp2_with (first
     | (go_at_call 70;(with_reducible refine(a4b r _ _ hR.out).mono ?_);rintro e v ⟨rfl,rfl⟩))
    go_ret2
    refine⟨.slice none 0 0,?_,?_,hK.out⟩
    ·rw [hPU.out,e.out]
     rfl
    ·rw [hPU.out,e.out]
     exact Rd.nil _ _
  ·by_cases hz:gk=0
   ·subst hz
    replace hE:=hjd (show PA=(acc,fm,s)from by rw [hE.out];simp [a2r])
    replace h0:=hjd h0
    have e:PU=([],12):=by rw [HP.out,hE.out];simp [hd]
    replace e:=hjd e
    go_wp2_with (first
     | (go_at_call 70;(with_reducible refine(a4b r _ _ hR.out).mono ?_);rintro e v ⟨rfl,rfl⟩))
    go_ret2
    refine⟨.slice none 0 0,?_,?_,hK.out⟩
    ·rw [hPU.out,e.out]
     rfl
    ·rw [hPU.out,e.out]
     exact Rd.nil _ _
   ·have hpos:(0:Int) < (gk:Int):=by omega
    replace hE:=hjd (show PA=(acc,fm,s)from by rw [hE.out,a8v _ h0];simp)
    replace h0:=hjd h0
    have e:PU=([],12):=by rw [HP.out,hE.out];simp [hd]
    replace e:=hjd e
    go_wp2_with (first
     | (go_at_call 70;(with_reducible refine(a4b r _ _ hR.out).mono ?_);rintro e v ⟨rfl,rfl⟩))
    go_ret2
    refine⟨.slice none 0 0,?_,?_,hK.out⟩
    ·rw [hPU.out,e.out]
     rfl
    ·rw [hPU.out,e.out]
     exact Rd.nil _ _
end Go.Proofs.YtdbngnlpafcogaaGreat
