/-
  Batches of updates: what the document reads from a tape (Read).
  Batches of updates: the program's bytes.
  Batches of updates: what the document reads bytes as (Parse); two batches compared (Same); the digest.
  Batches of updates: two batches compared (Same).
  Batches of updates: the digest.
  A statement that draws its order: as wp_tailR, and an operation may write into what is its own.
  A statement that draws its order: as wp_tailS, and operations may be guarded.
  The keys' laws: batches as bytes (HistBytes): the walk.
  The keys' laws: batches as bytes (HistBytes): the law; updates as they come in.
-/
import Derived.Test.YtdbngnlpafcogaaGreatZbHb4
import Derived.Test.YtdbngnlpafcogaaGreatZbJ05
import Derived.Laws.StructEq
import Derived.Test.YtdbngnlpafcogaaGreatZbJ04
import Derived.Test.YtdbngnlpafcogaaGreatZbDg5
import Derived.Test.YtdbngnlpafcogaaGreatZbText
set_option maxRecDepth 100000
namespace Go.Proofs.YtdbngnlpafcogaaGreat
open Go.RowKit Go.Mem Go.Txt
theorem d7z{w:World}{base t:Nat}{s:St}(h:a4d w base t s):w.cell? ⟨t,2,none⟩=some (.int .i64 s.1):=by
 obtain⟨v,bs,k,hb,_⟩:=h
 rw [hb.cell]
 rfl
theorem e4h{w:World}{base t:Nat}{s:St}{v:Value}{n:Nat}{xs:List Value}(h:a4d w base t s)(ho:Ow w 104 129 v n xs):v.ownBlock≠some t:=by
 obtain⟨v,bs,k,hb,_⟩:=h
 exact ho.a4n hb (by decide)
theorem b2p(a c d:List UInt8)(x:Int):[] ++ bv a ++ (Value.int .i64 x :: (bv c ++ bv d))=a2a a x c d:=by simp [a2a]
theorem a9u(a c d:List UInt8)(x:Int):bv a ++ [Value.int .i64 x] ++ bv c ++ bv d=a2a a x c d:=by simp [a2a]
set_option maxHeartbeats 6400000 in
theorem d2g{base t:Nat}{s1:St}(w:World)(h:a4d w base t s1)(hbase:base≤w.heap.size)(hok:okS s1) :
 Calls Tryz.prog 74 #[.pointer (some ⟨t,0,none⟩)] w fun e w'=>∃v',e= .returned (.tuple #[v',.bool (a2r (a6l 65536 s1).1 (a6l 65536 s1).2).2.1])∧Rd w' 129 v' (a2r (a6l 65536 s1).1 (a6l 65536 s1).2).1.length ((a2r (a6l 65536 s1).1 (a6l 65536 s1).2).1.flatMap uC)∧a4d w' base t (a2r (a6l 65536 s1).1 (a6l 65536 s1).2).2.2∧Kept [t] w w':=by
 have cu:=hjd (show Calls Tryz.prog 139 #[.pointer (some ⟨t,0,none⟩),.int .u64 65536] w fun e w'=>e= .returned (.int .i64 (a6l 65536 s1).1)∧a4d w' base t (a6l 65536 s1).2∧Kept [t] w w' from d3z base t 65536 s1 w h (by omega))
 have hz0:=hjd (a3g (ver:=0) (show UpL (a0e 32) (a0e 32) (a0e 64)from⟨rfl,rfl,rfl⟩))
 have HO:=hjd (c2q (m:=65536) hok)
 replace hbase:=hjd hbase
 have HT:=hjd h.lt
 clear h hok
 have HN:=hjd (b4j 65536 s1)
 have HL:=hjd (Nat.le_trans (b1b (a6l 65536 s1).1 (a6l 65536 s1).2) (b4j 65536 _))
 generalize hPA:a2r (a6l 65536 s1).1 (a6l 65536 s1).2=PA at *
 replace hPA:=hjd hPA
 go_enter Tryz.func74,Tryz.ntmps74
 go_wp2_with (first
  | (go_at_call 139;(with_reducible refine(cu.out).mono ?_);rintro e v11 ⟨rfl,h11,k11⟩
     have T:=hjd h11
     have K:=hjd k11
     clear h11 k11))
 generalize (a6l 65536 s1).1=N at *
 generalize (a6l 65536 s1).2=s0 at *
 go_loopg [4,5,7] N (fun f x4 x5 x7 wk=>∃(s:St) (acc:List Upd) (fm:Bool),f≤N∧x7= .int .i64 ((N - f:Nat):Int)∧x5= .bool fm∧Hid (a4d wk base t s)∧Hid (okS s)∧Hid (Kept [t] w wk)∧Hid (Ow wk 104 129 x4 acc.length (acc.flatMap uC))∧Hid (∀k,x4.ownBlock=some k→w.heap.size≤k)∧Hid (PA=(acc ++ (a2r f s).1,fm || (a2r f s).2.1,(a2r f s).2.2)))
 case atStart=>exact⟨s0,[],false,Nat.le_refl _,by simp,rfl,T,HO,K,hjd (Ow.nil _ _ _),hjd (fun k h=>by cases h),hjd (by rw [←hPA.out];simp)⟩
 case round=>
  obtain⟨s,acc,fm,hfb,rfl,rfl,hT,hO,hK,hX,hF,hE⟩:=hrel
  clear T HO K
  have hXo:=hX.out
  obtain⟨XA,xc,rfl,_⟩:=hXo.shape
  clear hXo
  have qb:=d7z hT.out
  have hN:=HN.out
  by_cases hz:gk=0
  ·subst hz
   have hlt:¬(((N - 0:Nat):Int) < (N:Int)):=by omega
   have e:PA=(acc,fm,s):=by rw [hE.out];simp [a2r]
   replace e:=hjd e
   go_wp2_with fail
   go_ret2
   refine⟨.slice XA acc.length xc,?_,?_,?_,hK.out⟩
   ·rw [e.out]
    rfl
   ·rw [e.out]
    exact Rd.a6u hX.out
   ·rw [e.out]
    exact hT.out
  ·obtain⟨m,rfl⟩:∃m,gk=m + 1:=⟨gk - 1,by omega⟩
   have hlt:(((N - (m + 1):Nat):Int) < (N:Int)):=by omega
   have hnx:((N - (m + 1):Nat):Int) + 1=((N - m:Nat):Int):=by omega
   by_cases h0:s.1=0
   ·have hE2:=hjd (show PA=(acc ++ (a2r (m + 1) s).1,fm || (a2r (m + 1) s).2.1,(a2r (m + 1) s).2.2)from hE.out)
    rw [a7l h0]at hE2
    rw [h0]at qb
    have OA:=hjd (a5p (n:=32) hO.out)
    have LA:=hjd (a3h 32 s)
    have cA:=hjd (fun W (h:a4d W base t s)=>c0e base t s W h)
    generalize a3w 32 s=A at *
    have OB:=hjd (b5w OA.out)
    have cB:=hjd (fun W (h:a4d W base t A.2)=>c4z base t A.2 W h)
    have lB:=b4h A.2
    generalize a8i A.2=Bn at *
    have OC:=hjd (a5p (n:=32) OB.out)
    have LC:=hjd (a3h 32 Bn.2)
    have cC:=hjd (fun W (h:a4d W base t Bn.2)=>c0e base t Bn.2 W h)
    generalize a3w 32 Bn.2=C at *
    have OD:=hjd (a5p (n:=64) OC.out)
    have LD:=hjd (a3h 64 C.2)
    have cD:=hjd (fun W (h:a4d W base t C.2)=>d6b base t C.2 W h)
    generalize a3w 64 C.2=D at *
    clear hO hE
    replace h0:=hjd h0
    have hal:=hjd (show acc.length≤65536 from by
     have:=HL.out
     rw [hE2.out]at this
     simp at this
     omega)
    have NR:=hjd (e4h hT.out hX.out)
    have L0:=hjd (show UpL (a0e 32) (a0e 32) (a0e 64)from⟨rfl,rfl,rfl⟩)
    have L1:=hjd (show UpL A.1 (a0e 32) (a0e 64)from⟨LA.out,rfl,rfl⟩)
    have L4:=hjd (show UpL A.1 C.1 D.1 from⟨LA.out,LC.out,LD.out⟩)
    have hz4:=hjd (a3g (ver:=(wrap64 (Bn.1:Int))) L4.out)
    have ho4:=hjd (a7x (id:=A.1) (key:=C.1) (sig:=D.1) (ver:=(wrap64 (Bn.1:Int))))
    cases fm with
    | true=>
      go_wp2_with (first
       | ((with_reducible refine a0l 8 ?_);(refine a0h (o:=⟨some 8,_,_,_,_,_⟩) rfl rfl a4a ?_);intro g8 w8 m8
          have B8:=hjd (show Blk w8 g8 104 (a2a (a0e 32) 0 (a0e 32) (a0e 64)).toArray from m8.blk)
          have NG:=hjd (m8.ne hT.out.lt)
          have L8:=hjd (Nat.le_trans hK.out.size m8.le)
          have NB:=hjd (show∀k∈[g8],base≤k from fun k hk=>by rw [List.mem_singleton.1 hk];exact Nat.le_trans hbase.out L8.out)
          have NX:=hjd (show∀k,(Value.slice XA acc.length xc).ownBlock=some k→k≠g8 from fun k hk=>m8.ne (hX.out.lt hk))
          have T0:=hjd (hT.out.a0o m8.kept)
          replace hK:=hjd (hK.out.a0g m8.kept)
          replace hX:=hjd (hX.out.a0o m8.kept)
          clear m8 hT qb)
       | (go_at_call 140;(with_reducible refine(cA.out _ T0.out).mono ?_);rintro e v25 ⟨rfl,h25,k25⟩
          have T1:=hjd h25
          replace hK:=hjd (hK.out.trans' k25)
          replace hX:=hjd (hX.out.kept k25 (fun k hk h=>NR.out (by rw [List.mem_singleton.1 h]at hk;exact hk)))
          replace B8:=hjd (B8.out.kept k25 (by simpa using fun h=>NG.out h.symm))
          clear h25 k25 T0)
       | (refine a1q (o:=⟨none,Op.store 22 (.tmp 26) (.tmp 25),_,_,_,_⟩) a2f.row rfl (.tmp 26) (.tmp 25) rfl rfl (pre:=[]) (mid:=bv (a0e 32)) (post:=Value.int .i64 0 :: (bv (a0e 32) ++ bv (a0e 64))) rfl (by rw [b2p];exact B8.out) rfl (by simp) (by simpa using LA.out) (a1r _) ?_
          intro wk0 b0 k0
          replace B8:=hjd (show Blk wk0 g8 104 (a2a A.1 0 (a0e 32) (a0e 64)).toArray from by rw [←b2p];exact b0)
          replace T1:=hjd (T1.out.kept k0 (by simpa using NG.out) NB.out)
          replace hX:=hjd (hX.out.kept k0 (fun k hk h=>NX.out k hk (List.mem_singleton.1 h)))
          replace hK:=hjd (hK.out.a0p k0 L8.out)
          clear b0 k0)
       | (go_at_call 141;(with_reducible refine(cB.out _ T1.out).mono ?_);rintro e v28 ⟨rfl,h28,k28⟩
          have T2:=hjd h28
          replace hK:=hjd (hK.out.trans' k28)
          replace hX:=hjd (hX.out.kept k28 (fun k hk h=>NR.out (by rw [List.mem_singleton.1 h]at hk;exact hk)))
          replace B8:=hjd (B8.out.kept k28 (by simpa using fun h=>NG.out h.symm))
          have qv:=a2w L1.out B8.out
          have fz:=B8.out.frozen 32
          have BS:=hjd (a4e (v2:=(wrap64 (Bn.1:Int))) L1.out B8.out)
          have KS:=hjd ((Kept.refl [g8] v28).setCell (p:=⟨g8,32,none⟩) (.inl (by simp)) (.int .i64 (wrap64 (Bn.1:Int))))
          have TS:=hjd (T2.out.kept KS.out (by simpa using NG.out) NB.out)
          replace hX:=hjd (hX.out.kept KS.out (fun k hk h=>NX.out k hk (List.mem_singleton.1 h)))
          replace hK:=hjd (hK.out.a0p KS.out L8.out)
          replace B8:=BS
          clear h28 k28 T1 T2 KS BS)
       | (go_at_call 140;(with_reducible refine(cC.out _ TS.out).mono ?_);rintro e v38 ⟨rfl,h38,k38⟩
          have T3:=hjd h38
          replace hK:=hjd (hK.out.trans' k38)
          replace hX:=hjd (hX.out.kept k38 (fun k hk h=>NR.out (by rw [List.mem_singleton.1 h]at hk;exact hk)))
          replace B8:=hjd (B8.out.kept k38 (by simpa using fun h=>NG.out h.symm))
          clear h38 k38 TS qv fz)
       | (refine a1q (o:=⟨none,Op.store 22 (.tmp 39) (.tmp 38),_,_,_,_⟩) a2f.row rfl (.tmp 39) (.tmp 38) rfl rfl (pre:=bv A.1 ++ [Value.int .i64 (wrap64 (Bn.1:Int))]) (mid:=bv (a0e 32)) (post:=bv (a0e 64)) rfl (by rw [a9u];exact B8.out) (by simp [LA.out]) (by simp) (by simpa using LC.out) (a1r _) ?_
          intro wk1 b1 k1
          replace B8:=hjd (show Blk wk1 g8 104 (a2a A.1 (wrap64 (Bn.1:Int)) C.1 (a0e 64)).toArray from by rw [←a9u];exact b1)
          replace T3:=hjd (T3.out.kept k1 (by simpa using NG.out) NB.out)
          replace hX:=hjd (hX.out.kept k1 (fun k hk h=>NX.out k hk (List.mem_singleton.1 h)))
          replace hK:=hjd (hK.out.a0p k1 L8.out)
          clear b1 k1)
       | (go_at_call 142;(with_reducible refine(cD.out _ T3.out).mono ?_);rintro e v41 ⟨rfl,h41,k41⟩
          have T4:=hjd h41
          replace hK:=hjd (hK.out.trans' k41)
          replace hX:=hjd (hX.out.kept k41 (fun k hk h=>NR.out (by rw [List.mem_singleton.1 h]at hk;exact hk)))
          replace B8:=hjd (B8.out.kept k41 (by simpa using fun h=>NG.out h.symm))
          clear h41 k41 T3)
       | (refine a1q (o:=⟨none,Op.store 32 (.tmp 42) (.tmp 41),_,_,_,_⟩) Q.b6f rfl (.tmp 42) (.tmp 41) rfl rfl (pre:=bv A.1 ++ (Value.int .i64 (wrap64 (Bn.1:Int)) :: bv C.1)) (mid:=bv (a0e 64)) (post:=[]) rfl (by rw [a2x];exact B8.out) (by simp [LA.out,LC.out]) (by simp) (by simpa using LD.out) (a1r _) ?_
          intro wk2 b2 k2
          replace B8:=hjd (show Blk wk2 g8 104 (a2a A.1 (wrap64 (Bn.1:Int)) C.1 D.1).toArray from by rw [←a2x];exact b2)
          replace T4:=hjd (T4.out.kept k2 (by simpa using NG.out) NB.out)
          replace hX:=hjd (hX.out.kept k2 (fun k hk h=>NX.out k hk (List.mem_singleton.1 h)))
          replace hK:=hjd (hK.out.a0p k2 L8.out)
          clear b2 k2)
       | ((with_reducible refine a0l 44 ?_);refine a0d (cs:=(a2a A.1 (wrap64 (Bn.1:Int)) C.1 D.1).toArray) (o:=⟨some 44,_,_,_,_,_⟩) b0d rfl (.tmp 8) rfl rfl B8.out (List.size_toArray.trans hz4.out) ?_)
       | ((with_reducible refine a0l 45 ?_);(refine a1c (o:=⟨some 45,_,_,_,_,_⟩) (v0:=b0r A.1 (wrap64 (Bn.1:Int)) C.1 D.1) (cells:=(a2a A.1 (wrap64 (Bn.1:Int)) C.1 D.1).toArray) rfl a6c rfl rfl (by decide) rfl (List.size_toArray.trans hz4.out) ?_);intro g45 w45 m45
          have R45:=hjd (show Rd w45 129 (.slice (some ⟨g45,0,none⟩) 1 1) 1 (a2a A.1 (wrap64 (Bn.1:Int)) C.1 D.1)from⟨_,_,rfl,by simpa using hz4.out,by simp,fun _=>⟨g45,0,rfl,fun j u hu=>by rw [m45.blk.cell,Nat.zero_add];simpa using hu⟩⟩)
          replace hK:=hjd (hK.out.a0g m45.kept)
          replace hX:=hjd (hX.out.a0o m45.kept)
          replace T4:=hjd (T4.out.a0o m45.kept)
          clear m45 B8)
       | (at_builtin;refine a1v a6c rfl (.tmp 43) (.tmp 45) rfl rfl (xs:=acc.flatMap uC) (n:=acc.length) (m:=1) (news:=a2a A.1 (wrap64 (Bn.1:Int)) C.1 D.1) hX.out rfl R45.out (fun x hx=>by have:=ho4.out;rw [Array.all_eq_true']at this;exact this x (by simpa using hx)) (by have:=hal.out;omega) (by have:=hal.out;omega) ?_
          intro x46 w46 o46 k46 b46
          have F46:=hjd (show∀k,x46.ownBlock=some k→w.heap.size≤k from fun k hk=>by
           rcases b46 with b | b
           ·exact hF.out k (b.symm.trans hk)
           ·have:=hK.out.size
            have e:=b.symm.trans hk
            cases e
            exact this)
          have T5:=hjd (T4.out.kept k46 (fun h=>NR.out (Option.mem_toList.1 h)) (fun k hk=>Nat.le_trans hbase.out (hF.out k (Option.mem_toList.1 hk))))
          replace hK:=hjd (hK.out.trans k46 (fun _ _ h=>h) (fun k hlt hk=>absurd (hF.out k (Option.mem_toList.1 hk)) (by omega)))
          have O46:=hjd (show Ow w46 104 129 x46 (acc ++ [(⟨A.1,(wrap64 (Bn.1:Int)),C.1,D.1⟩:Upd)]).length ((acc ++ [(⟨A.1,(wrap64 (Bn.1:Int)),C.1,D.1⟩:Upd)]).flatMap uC)from by simpa using o46)
          clear o46 k46 b46 T4))
      go_roundg m
      case measure=>omega
      case rel=>exact⟨D.2,acc ++ [⟨A.1,(wrap64 (Bn.1:Int)),C.1,D.1⟩],true,by omega,by go_num,rfl,T5,OD,hK,O46,F46,hjd (by rw [hE2.out];simp [])⟩
    | false=>
      by_cases hgt:(64:Int) < (Bn.1:Int)
      ·have hg2:=hjd (show 64 < Bn.1 from by omega)
       go_wp2_with (first
        | ((with_reducible refine a0l 8 ?_);(refine a0h (o:=⟨some 8,_,_,_,_,_⟩) rfl rfl a4a ?_);intro g8 w8 m8
           have B8:=hjd (show Blk w8 g8 104 (a2a (a0e 32) 0 (a0e 32) (a0e 64)).toArray from m8.blk)
           have NG:=hjd (m8.ne hT.out.lt)
           have L8:=hjd (Nat.le_trans hK.out.size m8.le)
           have NB:=hjd (show∀k∈[g8],base≤k from fun k hk=>by rw [List.mem_singleton.1 hk];exact Nat.le_trans hbase.out L8.out)
           have NX:=hjd (show∀k,(Value.slice XA acc.length xc).ownBlock=some k→k≠g8 from fun k hk=>m8.ne (hX.out.lt hk))
           have T0:=hjd (hT.out.a0o m8.kept)
           replace hK:=hjd (hK.out.a0g m8.kept)
           replace hX:=hjd (hX.out.a0o m8.kept)
           clear m8 hT qb)
        | (go_at_call 140;(with_reducible refine(cA.out _ T0.out).mono ?_);rintro e v25 ⟨rfl,h25,k25⟩
           have T1:=hjd h25
           replace hK:=hjd (hK.out.trans' k25)
           replace hX:=hjd (hX.out.kept k25 (fun k hk h=>NR.out (by rw [List.mem_singleton.1 h]at hk;exact hk)))
           replace B8:=hjd (B8.out.kept k25 (by simpa using fun h=>NG.out h.symm))
           clear h25 k25 T0)
        | (refine a1q (o:=⟨none,Op.store 22 (.tmp 26) (.tmp 25),_,_,_,_⟩) a2f.row rfl (.tmp 26) (.tmp 25) rfl rfl (pre:=[]) (mid:=bv (a0e 32)) (post:=Value.int .i64 0 :: (bv (a0e 32) ++ bv (a0e 64))) rfl (by rw [b2p];exact B8.out) rfl (by simp) (by simpa using LA.out) (a1r _) ?_
           intro wk0 b0 k0
           replace B8:=hjd (show Blk wk0 g8 104 (a2a A.1 0 (a0e 32) (a0e 64)).toArray from by rw [←b2p];exact b0)
           replace T1:=hjd (T1.out.kept k0 (by simpa using NG.out) NB.out)
           replace hX:=hjd (hX.out.kept k0 (fun k hk h=>NX.out k hk (List.mem_singleton.1 h)))
           replace hK:=hjd (hK.out.a0p k0 L8.out)
           clear b0 k0)
        | (go_at_call 141;(with_reducible refine(cB.out _ T1.out).mono ?_);rintro e v28 ⟨rfl,h28,k28⟩
           have T2:=hjd h28
           replace hK:=hjd (hK.out.trans' k28)
           replace hX:=hjd (hX.out.kept k28 (fun k hk h=>NR.out (by rw [List.mem_singleton.1 h]at hk;exact hk)))
           replace B8:=hjd (B8.out.kept k28 (by simpa using fun h=>NG.out h.symm))
           have qv:=a2w L1.out B8.out
           have fz:=B8.out.frozen 32
           have BS:=hjd (a4e (v2:=(wrap64 (Bn.1:Int))) L1.out B8.out)
           have KS:=hjd ((Kept.refl [g8] v28).setCell (p:=⟨g8,32,none⟩) (.inl (by simp)) (.int .i64 (wrap64 (Bn.1:Int))))
           have TS:=hjd (T2.out.kept KS.out (by simpa using NG.out) NB.out)
           replace hX:=hjd (hX.out.kept KS.out (fun k hk h=>NX.out k hk (List.mem_singleton.1 h)))
           replace hK:=hjd (hK.out.a0p KS.out L8.out)
           replace B8:=BS
           clear h28 k28 T1 T2 KS BS)
        | (go_at_call 140;(with_reducible refine(cC.out _ TS.out).mono ?_);rintro e v38 ⟨rfl,h38,k38⟩
           have T3:=hjd h38
           replace hK:=hjd (hK.out.trans' k38)
           replace hX:=hjd (hX.out.kept k38 (fun k hk h=>NR.out (by rw [List.mem_singleton.1 h]at hk;exact hk)))
           replace B8:=hjd (B8.out.kept k38 (by simpa using fun h=>NG.out h.symm))
           clear h38 k38 TS qv fz)
        | (refine a1q (o:=⟨none,Op.store 22 (.tmp 39) (.tmp 38),_,_,_,_⟩) a2f.row rfl (.tmp 39) (.tmp 38) rfl rfl (pre:=bv A.1 ++ [Value.int .i64 (wrap64 (Bn.1:Int))]) (mid:=bv (a0e 32)) (post:=bv (a0e 64)) rfl (by rw [a9u];exact B8.out) (by simp [LA.out]) (by simp) (by simpa using LC.out) (a1r _) ?_
           intro wk1 b1 k1
           replace B8:=hjd (show Blk wk1 g8 104 (a2a A.1 (wrap64 (Bn.1:Int)) C.1 (a0e 64)).toArray from by rw [←a9u];exact b1)
           replace T3:=hjd (T3.out.kept k1 (by simpa using NG.out) NB.out)
           replace hX:=hjd (hX.out.kept k1 (fun k hk h=>NX.out k hk (List.mem_singleton.1 h)))
           replace hK:=hjd (hK.out.a0p k1 L8.out)
           clear b1 k1)
        | (go_at_call 142;(with_reducible refine(cD.out _ T3.out).mono ?_);rintro e v41 ⟨rfl,h41,k41⟩
           have T4:=hjd h41
           replace hK:=hjd (hK.out.trans' k41)
           replace hX:=hjd (hX.out.kept k41 (fun k hk h=>NR.out (by rw [List.mem_singleton.1 h]at hk;exact hk)))
           replace B8:=hjd (B8.out.kept k41 (by simpa using fun h=>NG.out h.symm))
           clear h41 k41 T3)
        | (refine a1q (o:=⟨none,Op.store 32 (.tmp 42) (.tmp 41),_,_,_,_⟩) Q.b6f rfl (.tmp 42) (.tmp 41) rfl rfl (pre:=bv A.1 ++ (Value.int .i64 (wrap64 (Bn.1:Int)) :: bv C.1)) (mid:=bv (a0e 64)) (post:=[]) rfl (by rw [a2x];exact B8.out) (by simp [LA.out,LC.out]) (by simp) (by simpa using LD.out) (a1r _) ?_
           intro wk2 b2 k2
           replace B8:=hjd (show Blk wk2 g8 104 (a2a A.1 (wrap64 (Bn.1:Int)) C.1 D.1).toArray from by rw [←a2x];exact b2)
           replace T4:=hjd (T4.out.kept k2 (by simpa using NG.out) NB.out)
           replace hX:=hjd (hX.out.kept k2 (fun k hk h=>NX.out k hk (List.mem_singleton.1 h)))
           replace hK:=hjd (hK.out.a0p k2 L8.out)
           clear b2 k2)
        | ((with_reducible refine a0l 44 ?_);refine a0d (cs:=(a2a A.1 (wrap64 (Bn.1:Int)) C.1 D.1).toArray) (o:=⟨some 44,_,_,_,_,_⟩) b0d rfl (.tmp 8) rfl rfl B8.out (List.size_toArray.trans hz4.out) ?_)
        | ((with_reducible refine a0l 45 ?_);(refine a1c (o:=⟨some 45,_,_,_,_,_⟩) (v0:=b0r A.1 (wrap64 (Bn.1:Int)) C.1 D.1) (cells:=(a2a A.1 (wrap64 (Bn.1:Int)) C.1 D.1).toArray) rfl a6c rfl rfl (by decide) rfl (List.size_toArray.trans hz4.out) ?_);intro g45 w45 m45
           have R45:=hjd (show Rd w45 129 (.slice (some ⟨g45,0,none⟩) 1 1) 1 (a2a A.1 (wrap64 (Bn.1:Int)) C.1 D.1)from⟨_,_,rfl,by simpa using hz4.out,by simp,fun _=>⟨g45,0,rfl,fun j u hu=>by rw [m45.blk.cell,Nat.zero_add];simpa using hu⟩⟩)
           replace hK:=hjd (hK.out.a0g m45.kept)
           replace hX:=hjd (hX.out.a0o m45.kept)
           replace T4:=hjd (T4.out.a0o m45.kept)
           clear m45 B8)
        | (at_builtin;refine a1v a6c rfl (.tmp 43) (.tmp 45) rfl rfl (xs:=acc.flatMap uC) (n:=acc.length) (m:=1) (news:=a2a A.1 (wrap64 (Bn.1:Int)) C.1 D.1) hX.out rfl R45.out (fun x hx=>by have:=ho4.out;rw [Array.all_eq_true']at this;exact this x (by simpa using hx)) (by have:=hal.out;omega) (by have:=hal.out;omega) ?_
           intro x46 w46 o46 k46 b46
           have F46:=hjd (show∀k,x46.ownBlock=some k→w.heap.size≤k from fun k hk=>by
            rcases b46 with b | b
            ·exact hF.out k (b.symm.trans hk)
            ·have:=hK.out.size
             have e:=b.symm.trans hk
             cases e
             exact this)
           have T5:=hjd (T4.out.kept k46 (fun h=>NR.out (Option.mem_toList.1 h)) (fun k hk=>Nat.le_trans hbase.out (hF.out k (Option.mem_toList.1 hk))))
           replace hK:=hjd (hK.out.trans k46 (fun _ _ h=>h) (fun k hlt hk=>absurd (hF.out k (Option.mem_toList.1 hk)) (by omega)))
           have O46:=hjd (show Ow w46 104 129 x46 (acc ++ [(⟨A.1,(wrap64 (Bn.1:Int)),C.1,D.1⟩:Upd)]).length ((acc ++ [(⟨A.1,(wrap64 (Bn.1:Int)),C.1,D.1⟩:Upd)]).flatMap uC)from by simpa using o46)
           clear o46 k46 b46 T4))
       go_roundg m
       case measure=>omega
       case rel=>exact⟨D.2,acc ++ [⟨A.1,(wrap64 (Bn.1:Int)),C.1,D.1⟩],true,by omega,by go_num,rfl,T5,OD,hK,O46,F46,hjd (by rw [hE2.out];simp [hg2.out])⟩
      ·have hg2:=hjd (show ¬(64 < Bn.1)from by omega)
       have hwr:wrap64 (Bn.1:Int)=(Bn.1:Int):=IntWalk.wrap64_in _ (by omega)
       rw [hwr]at hE2 hz4 ho4
       clear hwr
       go_wp2_with (first
        | ((with_reducible refine a0l 8 ?_);(refine a0h (o:=⟨some 8,_,_,_,_,_⟩) rfl rfl a4a ?_);intro g8 w8 m8
           have B8:=hjd (show Blk w8 g8 104 (a2a (a0e 32) 0 (a0e 32) (a0e 64)).toArray from m8.blk)
           have NG:=hjd (m8.ne hT.out.lt)
           have L8:=hjd (Nat.le_trans hK.out.size m8.le)
           have NB:=hjd (show∀k∈[g8],base≤k from fun k hk=>by rw [List.mem_singleton.1 hk];exact Nat.le_trans hbase.out L8.out)
           have NX:=hjd (show∀k,(Value.slice XA acc.length xc).ownBlock=some k→k≠g8 from fun k hk=>m8.ne (hX.out.lt hk))
           have T0:=hjd (hT.out.a0o m8.kept)
           replace hK:=hjd (hK.out.a0g m8.kept)
           replace hX:=hjd (hX.out.a0o m8.kept)
           clear m8 hT qb)
        | (go_at_call 140;(with_reducible refine(cA.out _ T0.out).mono ?_);rintro e v25 ⟨rfl,h25,k25⟩
           have T1:=hjd h25
           replace hK:=hjd (hK.out.trans' k25)
           replace hX:=hjd (hX.out.kept k25 (fun k hk h=>NR.out (by rw [List.mem_singleton.1 h]at hk;exact hk)))
           replace B8:=hjd (B8.out.kept k25 (by simpa using fun h=>NG.out h.symm))
           clear h25 k25 T0)
        | (refine a1q (o:=⟨none,Op.store 22 (.tmp 26) (.tmp 25),_,_,_,_⟩) a2f.row rfl (.tmp 26) (.tmp 25) rfl rfl (pre:=[]) (mid:=bv (a0e 32)) (post:=Value.int .i64 0 :: (bv (a0e 32) ++ bv (a0e 64))) rfl (by rw [b2p];exact B8.out) rfl (by simp) (by simpa using LA.out) (a1r _) ?_
           intro wk0 b0 k0
           replace B8:=hjd (show Blk wk0 g8 104 (a2a A.1 0 (a0e 32) (a0e 64)).toArray from by rw [←b2p];exact b0)
           replace T1:=hjd (T1.out.kept k0 (by simpa using NG.out) NB.out)
           replace hX:=hjd (hX.out.kept k0 (fun k hk h=>NX.out k hk (List.mem_singleton.1 h)))
           replace hK:=hjd (hK.out.a0p k0 L8.out)
           clear b0 k0)
        | (go_at_call 141;(with_reducible refine(cB.out _ T1.out).mono ?_);rintro e v28 ⟨rfl,h28,k28⟩
           have T2:=hjd h28
           replace hK:=hjd (hK.out.trans' k28)
           replace hX:=hjd (hX.out.kept k28 (fun k hk h=>NR.out (by rw [List.mem_singleton.1 h]at hk;exact hk)))
           replace B8:=hjd (B8.out.kept k28 (by simpa using fun h=>NG.out h.symm))
           have qv:=a2w L1.out B8.out
           have fz:=B8.out.frozen 32
           have BS:=hjd (a4e (v2:=(Bn.1:Int)) L1.out B8.out)
           have KS:=hjd ((Kept.refl [g8] v28).setCell (p:=⟨g8,32,none⟩) (.inl (by simp)) (.int .i64 (Bn.1:Int)))
           have TS:=hjd (T2.out.kept KS.out (by simpa using NG.out) NB.out)
           replace hX:=hjd (hX.out.kept KS.out (fun k hk h=>NX.out k hk (List.mem_singleton.1 h)))
           replace hK:=hjd (hK.out.a0p KS.out L8.out)
           replace B8:=BS
           clear h28 k28 T1 T2 KS BS)
        | (go_at_call 140;(with_reducible refine(cC.out _ TS.out).mono ?_);rintro e v38 ⟨rfl,h38,k38⟩
           have T3:=hjd h38
           replace hK:=hjd (hK.out.trans' k38)
           replace hX:=hjd (hX.out.kept k38 (fun k hk h=>NR.out (by rw [List.mem_singleton.1 h]at hk;exact hk)))
           replace B8:=hjd (B8.out.kept k38 (by simpa using fun h=>NG.out h.symm))
           clear h38 k38 TS qv fz)
        | (refine a1q (o:=⟨none,Op.store 22 (.tmp 39) (.tmp 38),_,_,_,_⟩) a2f.row rfl (.tmp 39) (.tmp 38) rfl rfl (pre:=bv A.1 ++ [Value.int .i64 (Bn.1:Int)]) (mid:=bv (a0e 32)) (post:=bv (a0e 64)) rfl (by rw [a9u];exact B8.out) (by simp [LA.out]) (by simp) (by simpa using LC.out) (a1r _) ?_
           intro wk1 b1 k1
           replace B8:=hjd (show Blk wk1 g8 104 (a2a A.1 (Bn.1:Int) C.1 (a0e 64)).toArray from by rw [←a9u];exact b1)
           replace T3:=hjd (T3.out.kept k1 (by simpa using NG.out) NB.out)
           replace hX:=hjd (hX.out.kept k1 (fun k hk h=>NX.out k hk (List.mem_singleton.1 h)))
           replace hK:=hjd (hK.out.a0p k1 L8.out)
           clear b1 k1)
        | (go_at_call 142;(with_reducible refine(cD.out _ T3.out).mono ?_);rintro e v41 ⟨rfl,h41,k41⟩
           have T4:=hjd h41
           replace hK:=hjd (hK.out.trans' k41)
           replace hX:=hjd (hX.out.kept k41 (fun k hk h=>NR.out (by rw [List.mem_singleton.1 h]at hk;exact hk)))
           replace B8:=hjd (B8.out.kept k41 (by simpa using fun h=>NG.out h.symm))
           clear h41 k41 T3)
        | (refine a1q (o:=⟨none,Op.store 32 (.tmp 42) (.tmp 41),_,_,_,_⟩) Q.b6f rfl (.tmp 42) (.tmp 41) rfl rfl (pre:=bv A.1 ++ (Value.int .i64 (Bn.1:Int) :: bv C.1)) (mid:=bv (a0e 64)) (post:=[]) rfl (by rw [a2x];exact B8.out) (by simp [LA.out,LC.out]) (by simp) (by simpa using LD.out) (a1r _) ?_
           intro wk2 b2 k2
           replace B8:=hjd (show Blk wk2 g8 104 (a2a A.1 (Bn.1:Int) C.1 D.1).toArray from by rw [←a2x];exact b2)
           replace T4:=hjd (T4.out.kept k2 (by simpa using NG.out) NB.out)
           replace hX:=hjd (hX.out.kept k2 (fun k hk h=>NX.out k hk (List.mem_singleton.1 h)))
           replace hK:=hjd (hK.out.a0p k2 L8.out)
           clear b2 k2)
        | ((with_reducible refine a0l 44 ?_);refine a0d (cs:=(a2a A.1 (Bn.1:Int) C.1 D.1).toArray) (o:=⟨some 44,_,_,_,_,_⟩) b0d rfl (.tmp 8) rfl rfl B8.out (List.size_toArray.trans hz4.out) ?_)
        | ((with_reducible refine a0l 45 ?_);(refine a1c (o:=⟨some 45,_,_,_,_,_⟩) (v0:=b0r A.1 (Bn.1:Int) C.1 D.1) (cells:=(a2a A.1 (Bn.1:Int) C.1 D.1).toArray) rfl a6c rfl rfl (by decide) rfl (List.size_toArray.trans hz4.out) ?_);intro g45 w45 m45
           have R45:=hjd (show Rd w45 129 (.slice (some ⟨g45,0,none⟩) 1 1) 1 (a2a A.1 (Bn.1:Int) C.1 D.1)from⟨_,_,rfl,by simpa using hz4.out,by simp,fun _=>⟨g45,0,rfl,fun j u hu=>by rw [m45.blk.cell,Nat.zero_add];simpa using hu⟩⟩)
           replace hK:=hjd (hK.out.a0g m45.kept)
           replace hX:=hjd (hX.out.a0o m45.kept)
           replace T4:=hjd (T4.out.a0o m45.kept)
           clear m45 B8)
        | (at_builtin;refine a1v a6c rfl (.tmp 43) (.tmp 45) rfl rfl (xs:=acc.flatMap uC) (n:=acc.length) (m:=1) (news:=a2a A.1 (Bn.1:Int) C.1 D.1) hX.out rfl R45.out (fun x hx=>by have:=ho4.out;rw [Array.all_eq_true']at this;exact this x (by simpa using hx)) (by have:=hal.out;omega) (by have:=hal.out;omega) ?_
           intro x46 w46 o46 k46 b46
           have F46:=hjd (show∀k,x46.ownBlock=some k→w.heap.size≤k from fun k hk=>by
            rcases b46 with b | b
            ·exact hF.out k (b.symm.trans hk)
            ·have:=hK.out.size
             have e:=b.symm.trans hk
             cases e
             exact this)
           have T5:=hjd (T4.out.kept k46 (fun h=>NR.out (Option.mem_toList.1 h)) (fun k hk=>Nat.le_trans hbase.out (hF.out k (Option.mem_toList.1 hk))))
           replace hK:=hjd (hK.out.trans k46 (fun _ _ h=>h) (fun k hlt hk=>absurd (hF.out k (Option.mem_toList.1 hk)) (by omega)))
           have O46:=hjd (show Ow w46 104 129 x46 (acc ++ [(⟨A.1,(Bn.1:Int),C.1,D.1⟩:Upd)]).length ((acc ++ [(⟨A.1,(Bn.1:Int),C.1,D.1⟩:Upd)]).flatMap uC)from by simpa using o46)
           clear o46 k46 b46 T4))
       go_roundg m
       case measure=>omega
       case rel=>exact⟨D.2,acc ++ [⟨A.1,(Bn.1:Int),C.1,D.1⟩],false,by omega,by go_num,(by rw [decide_eq_false (show ¬((64:Int) < (Bn.1:Int))from by omega)]),T5,OD,hK,O46,F46,hjd (by rw [hE2.out];simp [hg2.out])⟩
   ·have hb2:(s.1 == 0)=false:=by simpa using h0
    have e:PA=(acc,fm,s):=by rw [hE.out,a8v _ h0];simp
    replace e:=hjd e
    go_wp2_with fail
    go_ret2
    refine⟨.slice XA acc.length xc,?_,?_,?_,hK.out⟩
    ·rw [e.out]
     rfl
    ·rw [e.out]
     exact Rd.a6u hX.out
    ·rw [e.out]
     exact hT.out
end Go.Proofs.YtdbngnlpafcogaaGreat
namespace Go.Proofs.YtdbngnlpafcogaaGreat
open Go.RowKit Go.Mem Go.Txt
section
variable {P:Program} {w:World} {a:Act} {ops:Array Oper} {rest:List Oper} {o:Oper} {Q:Exit→Act→World→Prop} {t e:TypeId} {bytes:Nat} {z:Value}
theorem c4h(hgd:Region.wanted o (yielded ops a.tmps)=true)(T:SliceT P t e 1 bytes z){x0 x1 x2 x3 x4:Operand}(ho:o.op= .buildSlice t 5 #[(0,x0),(1,x1),(2,x2),(3,x3),(4,x4)]){v0 v1 v2 v3 v4:Value}(h0:a.eval x0=v0)(h1:a.eval x1=v1)(h2:a.eval x2=v2)(h3:a.eval x3=v3)(h4:a.eval x4=v4)
 (c0:v0.cells= #[v0]) (c1:v1.cells= #[v1]) (c2:v2.cells= #[v2]) (c3:v3.cells= #[v3]) (c4:v4.cells= #[v4])
 (h:∀g w',Made w w' g e #[v0,v1,v2,v3,v4]→wpList P ops Q rest (a.put o.dst (.slice (some ⟨g,0,none⟩) 5 5)) w'):wpList P ops Q (o :: rest) a w:=by
 obtain⟨i,hi,hz,hs,hb⟩:=info_parts T.2
 have e2:(#[(0,x0),(1,x1),(2,x2),(3,x3),(4,x4)].map fun(p:Nat × Operand)=>(p.1,a.eval p.2)).toList= [(0,v0),(1,v1),(2,v2),(3,v3),(4,v4)]:=by simp [h0,h1,h2,h3,h4]
 have hf:Instr.fill (fun i=>some (i * 1,1)) ((Array.range (5 * 1)).map (z.cells[· % z.cells.size]!)) [(0,v0),(1,v1),(2,v2),(3,v3),(4,v4)]=some #[v0,v1,v2,v3,v4]:=by
  have hr:∀f:Nat→Value,(Array.range (5 * 1)).map f= #[f 0,f 1,f 2,f 3,f 4]:=fun f=>Array.toList_inj.1 (by rw [Array.toList_map,Array.toList_range];rfl)
  rw [hr]
  simp [Instr.fill,c0,c1,c2,c3,c4]
 refine a1m hgd fun _ hK=>wp_buildSlice t e 5 _ ho #[v0,v1,v2,v3,v4] i z T.1 hi hz (by rw [hs];omega) (by rw [hs];omega) (by rw [hs];exact(congrArg (Instr.fill _ _) e2).trans hf) (hK _ _ (h _ _ ⟨Blk.new _ _ _,(Kept.refl [] w).alloc _,Nat.le_refl _⟩))
end
theorem parts5{w:World}{g:Nat}{t:TypeId}{v1 v2 v3 v4 v5:Value}{x1 x2 x3 x4 x5:List UInt8}(hb:Blk w g t #[v1,v2,v3,v4,v5])(h1:a2g x1 v1 w)(h2:a2g x2 v2 w)(h3:a2g x3 v3 w)(h4:a2g x4 v4 w)(h5:a2g x5 v5 w):Parts w (.slice (some ⟨g,0,none⟩) 5 5) [(v1,x1),(v2,x2),(v3,x3),(v4,x4),(v5,x5)]:=by
 refine⟨⟨_,_,rfl,rfl,Nat.le_refl _,fun _=>⟨g,0,rfl,fun j u hu=>by rw [hb.cell,Nat.zero_add];simpa using hu⟩⟩,fun p hp=>?_⟩
 simp only [List.mem_cons,List.not_mem_nil,or_false]at hp
 rcases hp with rfl | rfl | rfl | rfl | rfl
 ·exact h1
 ·exact h2
 ·exact h3
 ·exact h4
 ·exact h5
theorem e4y{w u w':World}{v:Value}{xs:List UInt8}(k:Kept [] w u)(h:New u w' v xs):New w w' v xs:=
 ⟨h.ow,k.a0g h.kept,by
  rcases h.near with a | ⟨g,a,b⟩
  ·exact .inl a
  ·exact .inr ⟨g,a,Nat.le_trans k.size b⟩⟩
theorem d1p{w:World}{g o n:Nat}{xs:List UInt8}(h:w.rangeAt g o (bv xs))(hn:xs.length=n):a2g xs (.slice (some ⟨g,o,none⟩) n n) w:=by
 unfold a2g
 subst hn
 exact c5h h rfl
set_option maxHeartbeats 6400000 in
theorem a9r{us:List Upd}(v:Value)(w:World)(hr:Rd w 129 v us.length (us.flatMap uC))(hu:∀u∈us,UL u)(hx:us.length≤1000000) :
 Calls Tryz.prog 16 #[v] w fun e w'=>∃v',e= .returned v'∧New w w' v' (a4g us):=by
 obtain⟨VA,vc,rfl,_⟩:=id hr
 have H:=hjd hr
 have hu:=hjd hu
 have hz0:=hjd (a3g (ver:=0) (show UpL (a0e 32) (a0e 32) (a0e 64)from⟨rfl,rfl,rfl⟩))
 clear hr
 have cn:=hjd (fun u=>a6x (.slice none 0 0) [] us.length u (Rd.nil _ _) (by simp) (by omega))
 have ew:IntKind.u64.wrap (us.length:Int)=(us.length:Int):=by rw [IntKind.wrap_u64];omega
 go_enter Tryz.func16,Tryz.ntmps16
 go_wp2_with (first
  | (go_at_call 63;(with_reducible refine(cn.out _).mono ?_);rintro e v9 ⟨x9,rfl,h9⟩;rw [List.nil_append]at h9;have N9:=hjd h9;clear h9))
 go_loopg [3,12] us.length (fun f x3 x12 wk=>∃j:Nat,j≤us.length∧f + j=us.length∧x12= .int .i64 (j:Int)∧Hid (New w wk x3 (be8 us.length ++ a5r (us.take j))))
 case atStart=>exact⟨0,Nat.zero_le _,by omega,rfl,hjd (by simpa [a5r]using N9.out)⟩
 case round=>
  obtain⟨j,hj,hf,rfl,hN⟩:=hrel
  by_cases hlt:j < us.length
  ·have hp:=hjd (b9j hlt)
   have hpl:=hjd ((b7d (b0m hu.out j)).trans (by rw [List.length_take,Nat.min_eq_left hj]))
   have L:=hjd (hu.out us[j] (List.getElem_mem _))
   have hacc:=hjd (show be8 us.length ++ a5r (us.take (j + 1))=be8 us.length ++ a5r (us.take j) ++ d5y us[j]from by rw [b7x hlt,List.append_assoc])
   have hal:=hjd (show(be8 us.length ++ a5r (us.take j)).length≤136000008 from by
    rw [List.length_append,a1p,a8n (b0m hu.out j),List.length_take]
    omega)
   obtain⟨ub,uo,ud,ue,_⟩:=H.out.at_ (by omega)
   obtain⟨rfl,rfl⟩:VA=some ⟨ub,uo,none⟩∧vc=ud:=by simpa using ue
   clear ue
   have E:=hjd (Rd.elem (i:=j) (H.out.a0o hN.out.kept) hp.out hpl.out (by omega))
   generalize us[j]=u at *
   generalize be8 us.length ++ a5r (us.take j)=acc at *
   have hNo:=hN.out.ow
   obtain⟨XA,xc,rfl,_⟩:=hNo.shape
   clear hNo
   have cr:=hjd (fun W=>a6x (.slice none 0 0) [] (b3g u.ver) W (Rd.nil _ _) (by simp) (c2s _))
   have ev:=c7b u.ver
   have hzu:=hjd (b7l L.out)
   have ho1:=hjd (a7x (id:=u.id) (key:=u.key) (sig:=u.sig) (ver:=u.ver))
   go_wp2_with (first
    | ((with_reducible refine a0l 14 ?_);refine a5h (o:=⟨some 14,_,_,_,_,_⟩) a6c rfl (.tmp 10) (.tmp 12) rfl rfl rfl hlt ?_)
    | ((with_reducible refine a0l 15 ?_);refine a1k (o:=⟨some 15,_,_,_,_,_⟩) (cs:=uC u) b0d rfl (.tmp 14) rfl rfl E.out hzu.out ?_)
    | ((with_reducible refine a0l 5 ?_);(refine a0h (o:=⟨some 5,_,_,_,_,_⟩) rfl rfl a4a ?_);intro g5 w5 m5
       refine a0c (cs:=(uC u).toArray) (o:=⟨none,Op.store 104 (.tmp 5) (.tmp 15),_,_,_,_⟩) b0d rfl (.tmp 5) (.tmp 15) rfl rfl rfl m5.blk (List.size_toArray.trans hz0.out) (List.size_toArray.trans hzu.out) ho1.out ?_
       intro wb5 b5 k5
       have B5:=hjd b5
       have kk:=m5.kept.a0p k5 m5.le
       have R:=hjd (a2g.a0o hN.out.rd kk)
       have KK:=hjd (hN.out.kept.a0g kk)
       have qv:=a2w L.out b5
       clear m5 b5 k5 kk hN E))
   refine Txt.a2o (by kernel_rfl) (by kernel_rfl) ?_
   replace B5:=hjd (B5.out.kept (Kept.refl [] _).drew (by simp))
   replace R:=hjd (a2g.a0o R.out (Kept.refl [] _).drew)
   replace KK:=hjd (KK.out.a0g (Kept.refl [] _).drew)
   go_wp2_with (first
    | (go_at_call 63;(with_reducible refine(cr.out _).mono ?_);rintro e v22 ⟨x22,rfl,h22⟩
       rw [List.nil_append]at h22
       have R22:=hjd h22.rd
       have h22k:=h22.kept
       obtain⟨NA,nc,rfl,_⟩:=h22.ow.shape
       replace R:=hjd (a2g.a0o R.out h22k)
       replace B5:=hjd (B5.out.kept h22k (by simp))
       replace KK:=hjd (KK.out.a0g h22k)
       clear h22 h22k)
    | ((with_reducible refine a0l 27 ?_);(refine c4h (o:=⟨some 27,_,_,_,_,_⟩) rfl a3a rfl rfl rfl rfl rfl rfl rfl rfl rfl rfl rfl ?_);intro g27 w27 m27
       have B6:=B5.out.kept m27.kept (by simp)
       have PP:=hjd (parts5 m27.blk (a2g.a0o R.out m27.kept) (d1p (c8d B6) L.out.id) (a2g.a0o R22.out m27.kept) (d1p (b4t L.out B6) L.out.key) (d1p (b9l L.out B6) L.out.sig))
       replace KK:=hjd (KK.out.a0g m27.kept)
       clear m27 B6)
    | (go_at_call 64;(with_reducible refine(c0d _ _ _ PP.out (by simp) (by simp [a0u,bytesOf,a1p,L.out.id,L.out.key,L.out.sig];have:=hal.out;omega)).mono ?_);rintro e v28 ⟨x28,rfl,h28⟩
       have N28:=hjd h28
       clear h28))
   refine⟨rfl,by kernel_rfl,?_⟩
   go_wp2_with fail
   go_roundg (us.length - (j + 1))
   case measure=>omega
   case rel=>
    refine⟨j + 1,by omega,by omega,by go_num,?_⟩
    rw [hacc.out]
    have e:∀a b c d f,a0u [(a,acc),(b,u.id),(c,be8 (b3g u.ver)),(d,u.key),(f,u.sig)]=acc ++ d5y u:=fun a b c d f=>by simp [a0u,bytesOf,d5y]
    have N:=N28.out
    rw [e]at N
    exact hjd (e4y KK.out N)
  ·obtain rfl:j=us.length:=by omega
   rw [List.take_length]at hN
   have R:=hN
   clear hN
   go_wp2_with fail
   go_ret
   exact⟨_,rfl,R.out⟩
end Go.Proofs.YtdbngnlpafcogaaGreat
namespace Go.Proofs.YtdbngnlpafcogaaGreat
open Go.RowKit Go.Mem Go.Txt
theorem b1n{w w1:World}{t:Nat}{v:Value}{bs:List UInt8}(hr:Rd w 1 v bs.length (bv bs))(hb:bs.length≤9223372036854775807)(m:Made w w1 t 122 #[v,.int .i64 0,.int .i64 0]):a4d w1 w.heap.size t (0,bs):=
 ⟨v,bs,0,m.blk,hr.a0o m.kept,Nat.zero_le _,hb,rfl,m.le,fun h0 g hg=>by
  obtain⟨b,h1,h2⟩:=hr.lt (by omega) h0
  rw [h1]at hg
  cases hg
  exact h2⟩
theorem c7e:∀(n:Nat) (s:St),okS s→okS (a2r n s).2.2
 | 0,_,h=>h
 | n + 1,s,h=>by
   by_cases h0:s.1=0
   ·rw [a7l h0]
    exact c7e n _ (a5p (a5p (b5w (a5p h))))
   ·rw [a8v _ h0]
    exact h
set_option maxHeartbeats 6400000 in
theorem b5v{bs:List UInt8}(v:Value)(w:World)(hr:Rd w 1 v bs.length (bv bs))(hb:bs.length≤140737488351232) :
 Calls Tryz.prog 21 #[v] w fun e w'=>∃v',e= .returned (.tuple #[v',.int .i64 (a4w bs).2])∧Rd w' 129 v' (a4w bs).1.length ((a4w bs).1.flatMap uC)∧Kept [] w w':=by
 have H:=hjd hr
 obtain⟨VA,vc,rfl,_⟩:=id hr
 clear hr
 have hb:=hjd hb
 have HP:a4w bs=if a8j (b3a bs).2.2≠0 then([],a8j (b3a bs).2.2)else if (b3a bs).2.1=true then([],13)else((b3a bs).1,0):=rfl
 have HK:okS (b3a bs).2.2:=c7e _ _ (c2q (m:=65536) (show okS (0,bs)from .inl rfl))
 have HA:b3a bs=a2r (a6l 65536 (0,bs)).1 (a6l 65536 (0,bs)).2:=rfl
 have cr:=hjd (fun t u (h:a4d u w.heap.size t (0,bs)) (h2:w.heap.size≤u.heap.size)=>d2g u h h2 (.inl rfl))
 rw [←HA]at cr
 generalize a4w bs=PU at *
 generalize b3a bs=PA at *
 obtain⟨acc,fm,s⟩:=PA
 dsimp only at HP HK cr
 replace HP:=hjd HP
 clear HA
 have cd:=hjd (fun base t u (h:a4d u base t s)=>d7v base t s u h)
 rcases b7w HK with⟨h0,hd⟩ | ⟨h0,hd⟩ | ⟨h0,hd⟩ | ⟨h0,hd⟩
 ·cases fm with
  | true=>
    have e:PU=([],13):=by rw [HP.out];simp [hd]
    replace e:=hjd e
    have h0':=hjd h0
    clear h0
    go_enter Tryz.func21,Tryz.ntmps21
    go_wp2_with (first
     | ((with_reducible refine a0l 10 ?_);(refine a0q (o:=⟨some 10,_,_,_,_,_⟩) (v:=.agg #[.slice VA bs.length vc,.int .i64 0,.int .i64 0]) rfl (.tmp 9) rfl rfl ?_);intro g10 w10 m10
        have T:=hjd (b1n H.out (by have:=hb.out;omega) m10)
        have LS:=hjd m10.kept.size
        have GL:=hjd m10.le
        have KK:=hjd m10.kept
        clear m10)
     | (go_at_call 74;(with_reducible refine(cr.out g10 _ T.out LS.out).mono ?_);rintro e v13 ⟨x13,rfl,h1,h2,h3⟩
        have R:=hjd h1
        have T2:=hjd h2
        replace KK:=hjd (KK.out.fresh h3 (by simpa using GL.out))
        clear h1 h2 h3)
     | (go_at_call 75;(with_reducible refine(cd.out _ _ _ T2.out).mono ?_);rintro e v17 ⟨rfl,kk⟩
        replace R:=hjd (R.out.a0o kk)
        replace KK:=hjd (KK.out.a0g kk)
        clear kk))
    go_ret2
    refine⟨.slice none 0 0,?_,?_,KK.out⟩
    ·rw [e.out]
     rfl
    ·rw [e.out]
     exact Rd.nil _ _
  | false=>
    have e:PU=(acc,0):=by rw [HP.out];simp [hd]
    replace e:=hjd e
    have h0':=hjd h0
    clear h0
    go_enter Tryz.func21,Tryz.ntmps21
    go_wp2_with (first
     | ((with_reducible refine a0l 10 ?_);(refine a0q (o:=⟨some 10,_,_,_,_,_⟩) (v:=.agg #[.slice VA bs.length vc,.int .i64 0,.int .i64 0]) rfl (.tmp 9) rfl rfl ?_);intro g10 w10 m10
        have T:=hjd (b1n H.out (by have:=hb.out;omega) m10)
        have LS:=hjd m10.kept.size
        have GL:=hjd m10.le
        have KK:=hjd m10.kept
        clear m10)
     | (go_at_call 74;(with_reducible refine(cr.out g10 _ T.out LS.out).mono ?_);rintro e v13 ⟨x13,rfl,h1,h2,h3⟩
        have R:=hjd h1
        have T2:=hjd h2
        replace KK:=hjd (KK.out.fresh h3 (by simpa using GL.out))
        clear h1 h2 h3)
     | (go_at_call 75;(with_reducible refine(cd.out _ _ _ T2.out).mono ?_);rintro e v17 ⟨rfl,kk⟩
        replace R:=hjd (R.out.a0o kk)
        replace KK:=hjd (KK.out.a0g kk)
        clear kk))
    go_ret2
    refine⟨x13,?_,?_,KK.out⟩
    ·rw [e.out]
     rfl
    ·rw [e.out]
     exact R.out
 ·have e:PU=([],11):=by rw [HP.out];simp [hd]
  replace e:=hjd e
  have h0':=hjd h0
  clear h0
  go_enter Tryz.func21,Tryz.ntmps21
  go_wp2_with (first
   | ((with_reducible refine a0l 10 ?_);(refine a0q (o:=⟨some 10,_,_,_,_,_⟩) (v:=.agg #[.slice VA bs.length vc,.int .i64 0,.int .i64 0]) rfl (.tmp 9) rfl rfl ?_);intro g10 w10 m10
      have T:=hjd (b1n H.out (by have:=hb.out;omega) m10)
      have LS:=hjd m10.kept.size
      have GL:=hjd m10.le
      have KK:=hjd m10.kept
      clear m10)
   | (go_at_call 74;(with_reducible refine(cr.out g10 _ T.out LS.out).mono ?_);rintro e v13 ⟨x13,rfl,h1,h2,h3⟩
      have R:=hjd h1
      have T2:=hjd h2
      replace KK:=hjd (KK.out.fresh h3 (by simpa using GL.out))
      clear h1 h2 h3)
   | (go_at_call 75;(with_reducible refine(cd.out _ _ _ T2.out).mono ?_);rintro e v17 ⟨rfl,kk⟩
      replace R:=hjd (R.out.a0o kk)
      replace KK:=hjd (KK.out.a0g kk)
      clear kk))
  go_ret2
  refine⟨.slice none 0 0,?_,?_,KK.out⟩
  ·rw [e.out]
   rfl
  ·rw [e.out]
   exact Rd.nil _ _
 ·have e:PU=([],10):=by rw [HP.out];simp [hd]
  replace e:=hjd e
  have h0':=hjd h0
  clear h0
  go_enter Tryz.func21,Tryz.ntmps21
  go_wp2_with (first
   | ((with_reducible refine a0l 10 ?_);(refine a0q (o:=⟨some 10,_,_,_,_,_⟩) (v:=.agg #[.slice VA bs.length vc,.int .i64 0,.int .i64 0]) rfl (.tmp 9) rfl rfl ?_);intro g10 w10 m10
      have T:=hjd (b1n H.out (by have:=hb.out;omega) m10)
      have LS:=hjd m10.kept.size
      have GL:=hjd m10.le
      have KK:=hjd m10.kept
      clear m10)
   | (go_at_call 74;(with_reducible refine(cr.out g10 _ T.out LS.out).mono ?_);rintro e v13 ⟨x13,rfl,h1,h2,h3⟩
      have R:=hjd h1
      have T2:=hjd h2
      replace KK:=hjd (KK.out.fresh h3 (by simpa using GL.out))
      clear h1 h2 h3)
   | (go_at_call 75;(with_reducible refine(cd.out _ _ _ T2.out).mono ?_);rintro e v17 ⟨rfl,kk⟩
      replace R:=hjd (R.out.a0o kk)
      replace KK:=hjd (KK.out.a0g kk)
      clear kk))
  go_ret2
  refine⟨.slice none 0 0,?_,?_,KK.out⟩
  ·rw [e.out]
   rfl
  ·rw [e.out]
   exact Rd.nil _ _
 ·have e:PU=([],12):=by rw [HP.out];simp [hd]
  replace e:=hjd e
  have h0':=hjd h0
  clear h0
  go_enter Tryz.func21,Tryz.ntmps21
  go_wp2_with (first
   | ((with_reducible refine a0l 10 ?_);(refine a0q (o:=⟨some 10,_,_,_,_,_⟩) (v:=.agg #[.slice VA bs.length vc,.int .i64 0,.int .i64 0]) rfl (.tmp 9) rfl rfl ?_);intro g10 w10 m10
      have T:=hjd (b1n H.out (by have:=hb.out;omega) m10)
      have LS:=hjd m10.kept.size
      have GL:=hjd m10.le
      have KK:=hjd m10.kept
      clear m10)
   | (go_at_call 74;(with_reducible refine(cr.out g10 _ T.out LS.out).mono ?_);rintro e v13 ⟨x13,rfl,h1,h2,h3⟩
      have R:=hjd h1
      have T2:=hjd h2
      replace KK:=hjd (KK.out.fresh h3 (by simpa using GL.out))
      clear h1 h2 h3)
   | (go_at_call 75;(with_reducible refine(cd.out _ _ _ T2.out).mono ?_);rintro e v17 ⟨rfl,kk⟩
      replace R:=hjd (R.out.a0o kk)
      replace KK:=hjd (KK.out.a0g kk)
      clear kk))
  go_ret2
  refine⟨.slice none 0 0,?_,?_,KK.out⟩
  ·rw [e.out]
   rfl
  ·rw [e.out]
   exact Rd.nil _ _
end Go.Proofs.YtdbngnlpafcogaaGreat
namespace Go.Proofs.YtdbngnlpafcogaaGreat
open Go.RowKit Go.Mem Go.Txt
theorem d3l(ver:Int)(p q r:Nat→UInt8)(W:World):(part 22 (a2a ((List.range 32).map p) ver ((List.range 32).map q) ((List.range 64).map r)).toArray 0).run Tryz.prog W= .ok (ab ((List.range 32).map p)) W:=by kernel_rfl
theorem d2x(ver:Int)(p q r:Nat→UInt8)(W:World):(part 3 (a2a ((List.range 32).map p) ver ((List.range 32).map q) ((List.range 64).map r)).toArray 32).run Tryz.prog W= .ok (.int .i64 ver) W:=by kernel_rfl
theorem d5g(ver:Int)(p q r:Nat→UInt8)(W:World):(part 22 (a2a ((List.range 32).map p) ver ((List.range 32).map q) ((List.range 64).map r)).toArray 33).run Tryz.prog W= .ok (ab ((List.range 32).map q)) W:=by kernel_rfl
theorem d2s(ver:Int)(p q r:Nat→UInt8)(W:World):(part 32 (a2a ((List.range 32).map p) ver ((List.range 32).map q) ((List.range 64).map r)).toArray 65).run Tryz.prog W= .ok (ab ((List.range 64).map r)) W:=by kernel_rfl
theorem c3x{t e:TypeId}{n:Nat}(T:ArrT Tryz.prog t e n)(he:Tryz.prog.underlying e=some (.int .u8))(hsz:(Tryz.prog.info? e).map (·.size)=some 1)(xs:List UInt8)(hx:xs.length=n)(w:World) :
 (Op.equalIn 9999 t (ab xs) (ab xs)).run Tryz.prog w= .ok true w:=by
 have:=run_equalIn_bytes (P:=Tryz.prog) w 9997 t e n T.under he (fun w=>by
  cases hq:Tryz.prog.info? e with
  | none=>simp [hq]at hsz
  | some i=>simp [hq]at hsz;simp [sizeOf,typeInfo,hq,hsz]) xs xs hx hx
 rwa [beq_self_eq_true]at this
theorem c4v{id key sig:List UInt8}(ver:Int)(L:UpL id key sig)(W:World):(Op.equalIn 10000 104 (b0r id ver key sig) (b0r id ver key sig)).run Tryz.prog W= .ok true W:=by
 have p0:∀W,(part 22 (a2a id ver key sig).toArray 0).run Tryz.prog W= .ok (ab id) W:=fun W=>by
  rw [a5s L.id,a5s L.key,a5s L.sig];exact d3l _ _ _ _ _
 have p1:∀W,(part 3 (a2a id ver key sig).toArray 32).run Tryz.prog W= .ok (.int .i64 ver) W:=fun W=>by
  rw [a5s L.id,a5s L.key,a5s L.sig];exact d2x _ _ _ _ _
 have p2:∀W,(part 22 (a2a id ver key sig).toArray 33).run Tryz.prog W= .ok (ab key) W:=fun W=>by
  rw [a5s L.id,a5s L.key,a5s L.sig];exact d5g _ _ _ _ _
 have p3:∀W,(part 32 (a2a id ver key sig).toArray 65).run Tryz.prog W= .ok (ab sig) W:=fun W=>by
  rw [a5s L.id,a5s L.key,a5s L.sig];exact d2s _ _ _ _ _
 have e0:=fun W=>c3x a2f Tryz.underlying5 (by kernel_rfl) id L.id W
 have e1:=fun W=>run_equalIn_int (P:=Tryz.prog) W 9998 3 .i64 .i64 ver ver Tryz.underlying3
 have e2:=fun W=>c3x a2f Tryz.underlying5 (by kernel_rfl) key L.key W
 have e3:=fun W=>c3x (show ArrT Tryz.prog 32 5 64 from⟨Tryz.underlying32,by kernel_rfl⟩) Tryz.underlying5 (by kernel_rfl) sig L.sig W
 have hu:=Tryz.underlying104
 rw [run_equalIn_struct W 9999 _ _ _ (by kernel_rfl) (by kernel_rfl)]
 generalize (a2a id ver key sig).toArray=cs at *
 simp only [Program.fieldsOf,hu]
 simp [Op.eqFields,p0,p1,p2,p3,e0,e1,e2,e3]
theorem c1y{a:Act}{o:Oper}{u:World}{id key sig:List UInt8}(ver:Int)(L:UpL id key sig)(x y:Operand){t':TypeId}(ho:o.op= .binOp .neq 104 x y t')(hx:a.eval x=b0r id ver key sig)(hy:a.eval y=b0r id ver key sig):(execOp a.eval o).run Tryz.prog u= .ok (.value (.bool false)) u:=by
 have h1:=c4v ver L u
 have h2:=run_eqGuard_agg (P:=Tryz.prog) u .neq 104 x y (a2a id ver key sig).toArray (a2a id ver key sig).toArray (by kernel_rfl)
 simp [execOp,ho,hx,hy,binOp,Op.equal,Op.maxDepth,h1,h2]
set_option maxHeartbeats 3200000 in
theorem c1q{us:List Upd}(va vb:Value)(w:World)(ra:Rd w 129 va us.length (us.flatMap uC))(rb:Rd w 129 vb us.length (us.flatMap uC))(hu:∀u∈us,UL u)(hx:us.length≤1000000) :
 Calls Tryz.prog 22 #[va,vb] w fun e w'=>e= .returned (.bool true)∧Kept [] w w':=by
 obtain⟨AA,ac,rfl,_⟩:=id ra
 obtain⟨BA,bc,rfl,_⟩:=id rb
 have HA:=hjd ra
 have HB:=hjd rb
 have hu:=hjd hu
 clear ra rb
 go_enter Tryz.func22,Tryz.ntmps22
 go_wp2_with fail
 go_loopg [13] us.length (fun f g wk=>∃j:Nat,j≤us.length∧f + j=us.length∧g= .int .i64 (j:Int)∧Hid (Kept [] w wk))
 case atStart=>exact⟨0,Nat.zero_le _,by omega,rfl,hjd (Kept.refl _ _)⟩
 case round=>
  obtain⟨j,hj,hf,rfl,hwk⟩:=hrel
  by_cases hlt:j < us.length
  ·have H1:=hjd (HA.out.a0o hwk.out)
   have H2:=hjd (HB.out.a0o hwk.out)
   obtain⟨ab1,ao,ad,ea,_⟩:=H1.out.at_ (by omega)
   obtain⟨rfl,rfl⟩:AA=some ⟨ab1,ao,none⟩∧ac=ad:=by simpa using ea
   obtain⟨bb1,bo,bd,eb,_⟩:=H2.out.at_ (by omega)
   obtain⟨rfl,rfl⟩:BA=some ⟨bb1,bo,none⟩∧bc=bd:=by simpa using eb
   clear ea eb
   have hp:=hjd (b9j hlt)
   have hpl:=hjd ((b7d (b0m hu.out j)).trans (by rw [List.length_take,Nat.min_eq_left hj]))
   have L:=hjd (hu.out us[j] (List.getElem_mem _))
   have hr1:=hjd (Rd.elem (i:=j) H1.out hp.out hpl.out (by omega))
   have hr2:=hjd (Rd.elem (i:=j) H2.out hp.out hpl.out (by omega))
   generalize us[j]=u at *
   clear hp hpl H1 H2
   have hz:=hjd (b7l L.out)
   have qe:=fun W=>c4v u.ver L.out W
   go_wp2_with fail
   have S0:=hjd (And.intro hr1.out hr2.out)
   refine Txt.a1o [3,7,8] (fun v=>v.rangeAt ab1 (ao + j * 129) (uC u)∧v.rangeAt bb1 (bo + j * 129) (uC u)) [[_,_,_,_,_,_,_,_,_]] (by kernel_rfl) (by kernel_rfl) rfl S0.out (Txt.a0f ?_)
   go_wp2_with (first
    | ((with_reducible refine a0l 18 ?_);refine a5h (o:=⟨some 18,_,_,_,_,_⟩) a6c rfl (.tmp 16) (.tmp 17) rfl rfl rfl hlt ?_)
    | ((with_reducible refine a0l 19 ?_);refine a1k (o:=⟨some 19,_,_,_,_,_⟩) (cs:=uC u) b0d rfl (.tmp 18) rfl rfl S0.out.1 hz.out ?_)
    | ((with_reducible refine a0l 22 ?_);refine a5h (o:=⟨some 22,_,_,_,_,_⟩) a6c rfl (.tmp 20) (.tmp 21) rfl rfl rfl hlt ?_)
    | ((with_reducible refine a0l 23 ?_);refine a1k (o:=⟨some 23,_,_,_,_,_⟩) (cs:=uC u) b0d rfl (.tmp 22) rfl rfl S0.out.2 hz.out ?_))
   refine⟨rfl,S0.out,Txt.a1d ⟨⟨by kernel_rfl,?_⟩,?_⟩⟩
   ·intro i hi o ho hw
    have hj2:i=3∨i=7∨i=8:=by simpa using hi
    rcases hj2 with rfl | rfl | rfl <;> cases ho
    ·exact⟨19,rfl,fun v hv=>a3i b0d (.tmp 18) rfl rfl hv.1 hz.out⟩
    ·exact⟨23,rfl,fun v hv=>a3i b0d (.tmp 22) rfl rfl hv.2 hz.out⟩
    ·exact⟨24,rfl,fun v _=>c1y u.ver L.out (.tmp 19) (.tmp 23) rfl rfl rfl⟩
   clear S0 qe
   go_wp2_with fail
   go_roundg (us.length - (j + 1))
   case measure=>omega
   case rel=>exact⟨j + 1,by omega,by omega,by go_num,hjd (hwk.out.a0g (Kept.refl [] _).drew)⟩
  ·obtain rfl:j=us.length:=by omega
   go_wp2_with fail
   go_ret
   exact⟨rfl,hwk.out⟩
end Go.Proofs.YtdbngnlpafcogaaGreat
namespace Go.Proofs.YtdbngnlpafcogaaGreat
open Go.RowKit Go.Mem Go.Txt
set_option maxHeartbeats 3200000 in
theorem c3t{us:List Upd}(v:Value)(w:World)(hr:Rd w 129 v us.length (us.flatMap uC))(hu:∀u∈us,UL u)(hx:us.length≤1000000) :
 Calls Tryz.prog 18 #[v] w fun e w'=>e= .returned (ab (sha (4 :: a4g us)))∧Kept [] w w':=by
 have H:=hjd hr
 have cb:=hjd (fun u h=>a9r (us:=us) v u h hu hx)
 have hl:=hjd (show(a4g us).length≤136000008 from by
  unfold a4g
  rw [List.length_append,a1p,a8n hu]
  omega)
 have hsl:=hjd (a4q (4 :: a4g us))
 obtain⟨VA,vc,rfl,_⟩:=id hr
 clear hr hu
 have hj:=hjd (show∀a b,a0u [(a,[4]),(b,a4g us)]=4 :: a4g us from fun a b=>by simp [a0u,bytesOf])
 generalize a4g us=B at *
 go_enter Tryz.func18,Tryz.ntmps18
 go_wp2_with (first
  | ((with_reducible refine a0l 2 ?_);(refine a0h (o:=⟨some 2,_,_,_,_,_⟩) rfl rfl a6v ?_);intro g2 w2 m2
     have B2:=hjd (show Blk w2 g2 22 (bv (a0e 32)).toArray from m2.blk)
     have L2:=hjd m2.le
     have KK:=hjd m2.kept
     clear m2)
  | (go_at_call 16;(with_reducible refine(cb.out _ (H.out.a0o (KK.out.a0g ((Kept.refl [] _).alloc _)))).mono ?_);rintro e v5 ⟨x5,rfl,h5⟩
     have R4:=hjd (a2g.a0o (lit_b (a:=4) (cs:=#[.int .u8 4]) rfl rfl) h5.kept)
     have R5:=hjd h5.rd
     have ka:=((Kept.refl [] w2).alloc _).a0g h5.kept
     replace B2:=hjd (B2.out.kept ka (by simp))
     replace KK:=hjd (KK.out.a0g ka)
     obtain⟨NA,nc,rfl,_⟩:=h5.ow.shape
     clear h5 ka)
  | ((with_reducible refine a0l 6 ?_);(refine a6p (o:=⟨some 6,_,_,_,_,_⟩) rfl a3a rfl rfl rfl rfl rfl ?_);intro g6 w6 m6
     have PP:=hjd (d0j m6.blk (a2g.a0o R4.out m6.kept) (a2g.a0o R5.out m6.kept))
     replace B2:=hjd (B2.out.kept m6.kept (by simp))
     replace KK:=hjd (KK.out.a0g m6.kept)
     clear m6)
  | (go_at_call 66;(with_reducible refine(b2m _ _ _ PP.out (by simp) (by rw [hj.out];have:=hl.out;simp;omega)).mono ?_);rintro e v7 ⟨rfl,k7⟩
     replace B2:=hjd (B2.out.kept k7 (by simp))
     replace KK:=hjd (KK.out.a0g k7)
     clear k7)
  | (refine a0c (cs:=(bv (sha (4 :: B))).toArray) (o:=⟨none,Op.store 22 (.tmp 2) (.tmp 7),_,_,_,_⟩) a2f.row rfl (.tmp 2) (.tmp 7) rfl (by rfl) (by rw [hj.out];rfl) B2.out (by rfl) (by simpa using hsl.out) (a1r _) ?_
     intro wz bz kz))
 exact a1g a2f.row rfl rfl bz (by simpa using hsl.out) rfl ⟨rfl,KK.out.a0p kz L2.out⟩
end Go.Proofs.YtdbngnlpafcogaaGreat
namespace Go.Txt
open Go.RowKit Go.Mem
section
variable {P:Program} {ops:Array Oper} {Q:Exit→Act→World→Prop}
def b6e(p:Nat→Oper→Rel→Prop):Nat→List Oper→List Rel→Prop
 | _,_,[]=>True
 | k,o :: l,v :: vs=>p k o v∧b6e p (k + 1) l vs
 | _,[],_ :: _=>False
theorem b6e.get{p:Nat→Oper→Rel→Prop}:∀(l:List Oper) (vs:List Rel) (k i:Nat) (o:Oper) (v:Rel),b6e p k l vs→l[i]?=some o→vs[i]?=some v→p (k + i) o v
 | [],_,_,_,_,_,_,h,_=>by simp at h
 | o' :: l,[],_,_,_,_,_,_,h=>by simp at h
 | o' :: l,v' :: vs,k,0,o,v,h,ho,hv=>by
   obtain rfl:o'=o:=by simpa using ho
   obtain rfl:v'=v:=by simpa using hv
   exact h.1
 | o' :: l,v' :: vs,k,i + 1,o,v,h,ho,hv=>by
   have:=b6e.get l vs (k + 1) i o v h.2 (by simpa using ho) (by simpa using hv)
   rwa [show k + 1 + i=k + (i + 1)from by omega]at this
theorem b6e.get0{p:Nat→Oper→Rel→Prop}(l:List Oper)(vs:List Rel)(i:Nat)(o:Oper)(v:Rel)(h:b6e p 0 l vs)(ho:l[i]?=some o)(hv:vs[i]?=some v):p i o v:=by
 have:=b6e.get l vs 0 i o v h ho hv
 rwa [Nat.zero_add]at this
end
end Go.Txt
namespace Go.Txt
open Go.RowKit Go.Mem
section
variable {P:Program} {ops:Array Oper} {Q:Exit→Act→World→Prop}
def e2f(l:List Oper)(n:Nat):Bool:=d3g l.toArray && ((List.range l.length).all fun i=>(List.range l.length).all fun j=>i == j || (match l[i]?,l[j]? with | some x,some y=>x.dst.isNone || x.dst !=y.dst | _,_=>true)) && l.all fun o=>match o.dst with | some d=>decide (d < n) | none=>true
def d9z(l:List Oper)(n:Nat):Bool:=(List.range l.length).all fun i=>match l[i]? with
 | none=>true
 | some o=>match o.guard with
   | none=>true
   | some (k,_)=>decide (i < n) && (o.after.toList.any fun e=>e.on == k && Region.binds .any e) && (match l[k]? with | some ok=>ok.dst.isSome | none=>false)
theorem c8r{l:List Oper}{n i:Nat}{o:Oper}(h:d9z l n=true)(ho:l[i]?=some o):(n≤i→o.guard=none)∧∀k b,o.guard=some (k,b)→a1t o k∧∃ok d,l[k]?=some ok∧ok.dst=some d:=by
 have h1:=List.all_eq_true.1 h i (by simpa using(List.getElem?_eq_some_iff.1 ho).1)
 rw [ho]at h1
 dsimp only at h1
 cases hg:o.guard with
 | none=>exact⟨fun _=>rfl,fun k b h=>by cases h⟩
 | some p=>
   obtain⟨k,b⟩:=p
   rw [hg]at h1
   simp only [Bool.and_eq_true,decide_eq_true_eq]at h1
   obtain⟨⟨h2,h3⟩,h4⟩:=h1
   refine⟨fun h=>by omega,fun k' b' e=>?_⟩
   cases e
   refine⟨?_,?_⟩
   ·simp only [List.any_eq_true,Bool.and_eq_true,beq_iff_eq]at h3
    obtain⟨e,he,he1,he2⟩:=h3
    exact⟨e,by simpa using he,he1,he2⟩
   ·cases hk:l[k]? with
    | none=>rw [hk]at h4;cases h4
    | some ok=>
      rw [hk]at h4
      obtain⟨d,hd⟩:=Option.isSome_iff_exists.1 h4
      exact⟨ok,d,rfl,hd⟩
def a2t(P:Program)(l:List Oper)(vs:List Rel)(S:(Nat→Bool)→World→Prop)(T:Nat→List Nat)(a0:Act)(i:Nat)(o:Oper)(r:Rel):Prop:=
 (∀k,k≠i→¬a1t o k→∀v u u',r v u→Kept (T k) u u'→r v u')∧
   ((∃k b,o.guard=some (k,b)∧vs[k]?=some (isV (.bool (!b)))∧∀w,r undef w)∨
    ((o.guard=none∨∃k b,o.guard=some (k,b)∧vs[k]?=some (isV (.bool b)))∧∀(L:Nat→Bool) a w (C:Act→World→Prop) (R:Exit→Act→World→Prop),L i=false→S L w→
     (∀(j:Nat) (r':Rel) d oj,vs[j]?=some r'→l[j]?=some oj→oj.dst=some d→a1t o j→r' (a.tmps.getD d undef) w)→
     (∀t,(∀x∈l,x.dst≠some t)→a.tmps.getD t undef=a0.tmps.getD t undef)→
     (∀v w',Kept (T i) w w'→r v w'→C (a.put o.dst v) w')→o.wp P a w C R))
theorem c5z{id:Nat}{l:List Oper}{a0:Act}{w0:World}(hm:P.follows .mixedOrders=true)(vs:List Rel)(S:(Nat→Bool)→World→Prop)(T:Nat→List Nat)(hch:e2f l a0.tmps.size=true)(hgu:d9z l vs.length=true)(hn:vs.length < l.length)(htl:e4t l vs.length=true)
 (hS0:S (fun _=>false) w0.drew) (hSc:∀L L' u,(∀j,j < l.length→L j=L' j)→S L u→S L' u) (hS:∀L i u u',L i=false→S L u→Kept (T i) u u'→S (fun j=>if j=i then true else L j) u') (hA:b6e (a2t P l vs S T a0) 0 l vs)
 (hF:∀(v:Nat→Value) w,S (fun j=>decide (j < vs.length)) w→(∀(j:Nat) (r:Rel),vs[j]?=some r→r (v j) w)→b0h P Q (l.drop vs.length) (a0z l.toArray v (fun j=>decide (j < vs.length)) (List.range l.length) a0) w):(Code.region id l.toArray true).wp P Q a0 w0:=by
 simp only [e2f,Bool.and_eq_true]at hch
 obtain⟨⟨hdep,hdst⟩,hsz⟩:=hch
 have hd:∀(i:Nat) (o:Oper),l[i]?=some o→∀(j:Nat),j≠i→∀(oj:Oper),l[j]?=some oj→∀t,oj.dst=some t→o.dst≠some t:=by
  intro i o ho j hj oj hoj t ht e
  have hil:i < l.length:=(List.getElem?_eq_some_iff.1 ho).1
  have hjl:j < l.length:=(List.getElem?_eq_some_iff.1 hoj).1
  have:=List.all_eq_true.1 (List.all_eq_true.1 hdst j (by simpa using hjl)) i (by simpa using hil)
  simp [ho,hoj,ht,e,hj]at this
 have hlt:∀(i:Nat) (o:Oper) d,l[i]?=some o→o.dst=some d→d < a0.tmps.size:=by
  intro i o d ho hdd
  have:=List.all_eq_true.1 hsz o (List.mem_of_getElem? ho)
  simpa [hdd]using this
 have hget:∀(i:Nat) (o:Oper) (d:Tmp) (v:Nat→Value) (L:Nat→Bool),l[i]?=some o→o.dst=some d→L i=true→(a0z l.toArray v L (List.range l.length) a0).tmps.getD d undef=v i:=by
  intro i o d v L ho hdd hL
  exact a7c (by simpa using ho) hdd hL (fun j hj oj hoj t ht=>hd i o ho j hj oj (by simpa using hoj) t ht) _ _ List.nodup_range (by simpa using(List.getElem?_eq_some_iff.1 ho).1) (hlt i o d ho hdd)
 have hoth:∀(t:Tmp) (v:Nat→Value) (L:Nat→Bool),(∀x∈l,x.dst≠some t)→(a0z l.toArray v L (List.range l.length) a0).tmps.getD t undef=a0.tmps.getD t undef:=by
  intro t v L ht
  exact a4o _ _ fun j _ o ho _=>ht o (List.mem_of_getElem? (by simpa using ho))
 have hset:∀(i:Nat) (o:Oper) (v:Nat→Value) (L:Nat→Bool),l[i]?=some o→L i=false→(a0z l.toArray v L (List.range l.length) a0).put o.dst (v i)=a0z l.toArray v (fun j=>if j=i then true else L j) (List.range l.length) a0:=by
  intro i o v L ho hL
  exact(a7k hL (by simpa using ho) (fun j hj oj hoj t ht=>hd i o ho j hj oj (by simpa using hoj) t ht) _ _ List.nodup_range (by simpa using(List.getElem?_eq_some_iff.1 ho).1)).symm
 let I:(Nat→Bool)→Act→World→Prop:=fun L a w=>b2h l L∧((S L w∧(∃v:Nat→Value,a=a0z l.toArray v L (List.range l.length) a0∧∀(j:Nat) (r:Rel),vs[j]?=some r→L j=true→r (v j) w)∧∀j,vs.length≤j→j < l.length→L j=false)∨
  ∃m,vs.length < m∧m≤l.length∧(∀j,j < m→L j=true)∧(∀j,m≤j→j < l.length→L j=false)∧b0h P Q (l.drop m) a w)
 have hvl:∀(j:Nat) (r:Rel),vs[j]?=some r→j < vs.length:=fun j r h=>(List.getElem?_eq_some_iff.1 h).1
 refine wp_region_any hm ?_
 refine a8q I ?_ hdep ?_ ?_ _ _ _ _ (by simp) (by simp) ?_
 ·rintro L L' a w hL ⟨hc,h⟩
  have hL2:∀j,j < l.length→L j=L' j:=fun j hj=>hL j (by simpa using hj)
  refine⟨fun j o hj hl k hb hk=>?_,?_⟩
  ·have hjl:j < l.length:=(List.getElem?_eq_some_iff.1 hj).1
   exact(hL2 k hk).symm.trans (hc j o hj ((hL2 j hjl).trans hl) k hb hk)
  rcases h with⟨h1,⟨v,h2,hr⟩,h3⟩ | ⟨m,m1,m2,m3,m4,m5⟩
  ·exact .inl ⟨hSc _ _ _ hL2 h1,⟨v,h2.trans (a1i _ _ fun j hj=>⟨hL2 j (by simpa using hj),fun _=>rfl⟩),fun j r hj hl=>hr j r hj ((hL2 j (by have:=hvl j r hj;omega)).trans hl)⟩,fun j hj hl=>(hL2 j hl).symm.trans (h3 j hj hl)⟩
  ·exact .inr ⟨m,m1,m2,fun j hj=>(hL2 j (by omega)).symm.trans (m3 j hj),fun j hj hl=>(hL2 j hl).symm.trans (m4 j hj hl),m5⟩
 ·rintro L a w i o ⟨hcl,hI⟩ ho hLi hdeps
  have ho':l[i]?=some o:=by simpa using ho
  have hil:i < l.length:=(List.getElem?_eq_some_iff.1 ho').1
  have hbound:∀j,a1t o j→L j=true:=by
   rintro j ⟨e,he,rfl,hb⟩
   exact hdeps e he hb
  have hstep:=b4c hcl ho' hbound
  have hcase:(Region.wanted o (yielded l.toArray a.tmps)=true→o.wp P a w (fun a' w'=>I (fun j=>if j=i then true else L j) a' w') Q)→(Region.wanted o (yielded l.toArray a.tmps)=false→I (fun j=>if j=i then true else L j) (a.put o.dst undef) w)→wpOp P l.toArray Q i (fun a' w'=>I (fun j=>if j=i then true else L j) a' w') a w:=by
   intro h1 h2
   unfold wpOp
   simp only [ho]
   cases hwt:Region.wanted o (yielded l.toArray a.tmps)with
   | true=>rw [if_pos rfl];exact .inl (h1 hwt)
   | false=>rw [if_neg (by simp)];exact h2 hwt
  obtain⟨hgt,hgb⟩:=c8r hgu ho'
  have hfree:o.guard=none→∀y,Region.wanted o y=true:=fun h y=>by simp [Region.wanted,h]
  have hnext:∀m,vs.length≤m→i=m→(∀j,j < m→L j=true)→(∀j,m≤j→j < l.length→L j=false)→∀a w,b0h P Q (l.drop m) a w→o.wp P a w (fun a' w'=>I (fun j=>if j=i then true else L j) a' w') Q:=by
   rintro m hm rfl m3 m4 a w hq
   rw [List.drop_eq_getElem_cons hil]at hq
   have e:l[i]=o:=by
    rw [List.getElem?_eq_getElem hil]at ho'
    simpa using ho'
   rw [e]at hq
   refine Oper.wp_mono (fun a' w' hq=>⟨hstep,.inr ⟨i + 1,by omega,by omega,fun j hj=>?_,fun j hj hl=>?_,hq⟩⟩) hq
   ·dsimp only
    by_cases h:j=i
    ·rw [if_pos h]
    ·rw [if_neg h];exact m3 j (by omega)
   ·dsimp only
    rw [if_neg (by omega)];exact m4 j (by omega) hl
  rcases hI with⟨h1,⟨v,rfl,hr⟩,h3⟩ | ⟨m,m1,m2,m3,m4,m5⟩
  case inr=>
   have hmi:m≤i:=by
    rcases Nat.lt_or_ge i m with h | h
    ·rw [m3 i h]at hLi;cases hLi
    ·exact h
   have him:i=m:=by
    rcases Nat.lt_or_ge m i with h | h
    ·have:=b0w htl (by omega) hil hcl ho' (fun j hb _=>hbound j hb) m h
     rw [m4 m (Nat.le_refl _) (by omega)]at this;cases this
    ·omega
   exact hcase (fun _=>hnext m (by omega) him m3 m4 _ _ m5) (fun hw=>absurd (hfree (hgt (by omega)) _) (by rw [hw];simp))
  by_cases hin:vs.length≤i
  ·have hall:=b0w htl hin hil hcl ho' (fun j hb _=>hbound j hb)
   have hi:i=vs.length:=by
    rcases Nat.lt_or_ge vs.length i with h | h
    ·have:=hall vs.length h
     rw [h3 _ (Nat.le_refl _) hn]at this;cases this
    ·omega
   have e1:a0z l.toArray v L (List.range l.length) a0=a0z l.toArray v (fun j=>decide (j < vs.length)) (List.range l.length) a0:=by
    refine a1i _ _ fun j hj=>⟨?_,fun _=>rfl⟩
    have hj':j < l.length:=by simpa using hj
    by_cases h:j < vs.length
    ·rw [hall j (by omega)];simp [h]
    ·rw [h3 j (by omega) hj'];simp [h]
   refine hcase (fun _=>hnext vs.length (Nat.le_refl _) hi (fun j hj=>hall j (by omega)) h3 _ _ ?_) (fun hw=>absurd (hfree (hgt hin) _) (by rw [hw];simp))
   rw [e1]
   refine hF v w (hSc _ _ _ (fun j hj=>?_) h1) fun j r hj=>hr j r hj (hall j (by have:=hvl j r hj;omega))
   by_cases h:j < vs.length
   ·rw [hall j (by omega)];simp [h]
   ·rw [h3 j (by omega) hj];simp [h]
  ·have hi:i < vs.length:=by omega
   have hv:vs[i]?=some vs[i]:=by simp [hi]
   obtain⟨_,hp⟩:=b6e.get0 l vs i o vs[i] hA ho' hv
   have hy:∀k b c,o.guard=some (k,b)→vs[k]?=some (isV (.bool c))→Region.wanted o (yielded l.toArray (a0z l.toArray v L (List.range l.length) a0).tmps)=(c == b):=by
    intro k b c hg hvk
    obtain⟨hb,ok,d,hok,hd1⟩:=hgb k b hg
    have e1:v k= .bool c:=hr k _ hvk (hbound k hb)
    have e2:=hget k ok d v L hok hd1 (hbound k hb)
    rw [e1]at e2
    have e3:yielded l.toArray (a0z l.toArray v L (List.range l.length) a0).tmps k=some c:=by
     unfold yielded
     have h0:l.toArray[k]?=some ok:=by simpa using hok
     rw [h0]
     simp only [Option.bind_some,hd1]
     rw [Array.getD_eq_getD_getElem?]at e2
     cases hq:(a0z l.toArray v L (List.range l.length) a0).tmps[d]? with
     | none=>rw [hq]at e2;cases e2
     | some x=>rw [hq]at e2;simp only [Option.getD_some]at e2;rw [e2]
    simp [Region.wanted,hg,e3]
   have hgo:∀u w',Kept (T i) w w'→vs[i] u w'→I (fun j=>if j=i then true else L j) ((a0z l.toArray v L (List.range l.length) a0).put o.dst u) w':=?hgo
   case hgo=>
    refine fun u w' hk hru=>⟨hstep,.inl ⟨hS L i _ _ hLi h1 hk,⟨fun j=>if j=i then u else v j,?_,fun j r hj hl=>?_⟩,fun j hj hl=>?_⟩⟩
    ·have e1:a0z l.toArray v L (List.range l.length) a0=a0z l.toArray (fun j=>if j=i then u else v j) L (List.range l.length) a0:=by
      refine a1i _ _ fun j _=>⟨rfl,fun hl=>?_⟩
      have hji:j≠i:=fun e=>by rw [e,hLi]at hl;cases hl
      simp [hji]
     have:=hset i o (fun j=>if j=i then u else v j) L ho' hLi
     simp only [if_true]at this
     rw [e1];exact this
    ·dsimp only at hl ⊢
     by_cases hji:j=i
     ·subst hji
      rw [hv]at hj;cases hj
      rw [if_pos rfl];exact hru
     ·rw [if_neg hji]at hl ⊢
      obtain⟨oj,hoj⟩:∃oj,l[j]?=some oj:=⟨_,List.getElem?_eq_getElem (by have:=hvl j r hj;omega)⟩
      obtain⟨hst,_⟩:=b6e.get0 l vs j oj r hA hoj hj
      exact hst i (fun e=>hji e.symm) (fun hb=>by have:=hcl j oj hoj hl i hb hil;rw [hLi]at this;cases this) _ _ _ (hr j r hj hl) hk
    ·dsimp only
     rw [if_neg (by omega)];exact h3 j hj hl
   rcases hp with⟨k,b,hg,hvk,hru⟩ | ⟨hg,hp⟩
   ·refine hcase (fun hw=>?_) (fun _=>hgo undef w (Kept.refl _ _) (hru w))
    rw [hy k b _ hg hvk]at hw
    cases b <;> cases hw
   ·refine hcase (fun _=>hp L _ w _ _ hLi h1 (fun j r d oj hK hoj hdj hb=>?_) (fun t ht=>hoth t _ L ht) hgo) (fun hw=>?_)
    ·rw [hget j oj d v L hoj hdj (hbound j hb)]
     exact hr j r hK (hbound j hb)
    ·rcases hg with hg | ⟨k,b,hg,hvk⟩
     ·exact absurd (hfree hg _) (by rw [hw];simp)
     ·rw [hy k b b hg hvk]at hw
      simp at hw
 ·rintro L a w ⟨_,⟨_,_,h3⟩ | ⟨m,m1,m2,m3,m4,m5⟩⟩ hall
  ·have:=h3 _ (Nat.le_refl _) hn
   rw [hall vs.length (by simpa using hn)]at this;cases this
  ·have:m=l.length:=by
    rcases Nat.lt_or_ge m l.length with h | h
    ·have h2:=m4 m (Nat.le_refl _) h
     rw [hall m (by simpa using h)]at h2;cases h2
    ·omega
   subst this
   rwa [List.drop_length]at m5
 ·have hf:∀(j:Nat),j < l.length→(Array.replicate l.toArray.size false).getD j true=false:=by
   intro j hj;simp [hj]
  refine⟨fun j o hj hl=>absurd ((hf j (List.getElem?_eq_some_iff.1 hj).1).symm.trans hl) (by simp),.inl ⟨hSc _ _ _ (fun j hj=>(hf j hj).symm) hS0,⟨fun _=>undef,?_,fun j r hj hl=>absurd ((hf j (by have:=hvl j r hj;omega)).symm.trans hl) (by simp)⟩,fun j _ hl=>hf j hl⟩⟩
  rw [a1i (L':=fun _=>false) (v':=fun _=>undef) _ _ fun j hj=>⟨hf j (by simpa using hj),fun _=>rfl⟩,a5y]
end
end Go.Txt
namespace Go.Proofs.YtdbngnlpafcogaaGreat
open Go.RowKit Go.Mem Go.Txt
section
variable {l:List Oper} {vs:List Rel} {a0:Act} {w0:World} {o:Oper}
theorem a2t.ofR{i:Nat}{r:Rel}(hg:o.guard=none∨∃k b,o.guard=some (k,b)∧vs[k]?=some (isV (.bool b)))(h:a4u Tryz.prog l vs (fun u=>Kept [] w0 u) a0 o r):a2t Tryz.prog l vs (fun _ u=>Kept [] w0 u) (fun _=>[]) a0 i o r:=
 ⟨fun _ _ _ _ _ _ h1 h2=>h.1 _ _ _ h1 h2,.inr ⟨hg,fun _ a w C R _ hS=>h.2 a w C R hS⟩⟩
def c9x(m1 m2:List UInt8):Rel:=fun v w=>∃p1 p2,Parts w v [(p1,m1),(p2,m2)]
theorem c9x.a0o{m1 m2:List UInt8}{v:Value}{w w':World}(h:c9x m1 m2 v w)(k:Kept [] w w'):c9x m1 m2 v w':=let⟨p1,p2,hp⟩:=h;⟨p1,p2,Parts.a0o hp k⟩
theorem c0h{x y i j:Nat}{m1 m2:List UInt8}{v2:Value}{oi oj:Oper}(ho:o.op= .buildSlice 45 2 #[(0,.tmp x),(1,.tmp y)])(hw:a2g m2 v2 w0)
 (hi:vs[i]?=some (a2g m1)) (hl:l[i]?=some oi) (hd:oi.dst=some x) (hb:a1t o i) (hj:vs[j]?=some (isV v2)) (hl2:l[j]?=some oj) (hd2:oj.dst=some y) (hb2:a1t o j):a4u Tryz.prog l vs (fun u=>Kept [] w0 u) a0 o (c9x m1 m2):=by
 refine⟨fun _ _ _ h hk=>c9x.a0o h hk,fun a w C R hS hr _ h=>?_⟩
 have e:a2g m1 (a.tmps.getD x undef) w:=hr i _ x oi hi hl hd hb
 have e2v:a.tmps.getD y undef=v2:=hr j _ y oj hj hl2 hd2 hb2
 have e2:a2g m2 v2 w:=a2g.a0o hw hS
 generalize hv1:a.tmps.getD x undef=v1 at e
 have c0:v1.cells= #[v1]:=by obtain⟨A,c,e1,_⟩:=id e;rw [e1];rfl
 have c1:v2.cells= #[v2]:=by obtain⟨A,c,e1,_⟩:=id e2;rw [e1];rfl
 obtain⟨q,hq,hz,hs,hb⟩:=info_parts a3a.2
 have hv:(#[(0,Operand.tmp x),(1,.tmp y)].map fun(p:Nat × Operand)=>(p.1,a.eval p.2)).toList= [(0,v1),(1,v2)]:=by simp [Act.eval,←hv1,←e2v]
 have hf:Instr.fill (fun i=>some (i * 1,1)) ((Array.range (2 * 1)).map ((Value.slice none 0 0).cells[· % (Value.slice none 0 0).cells.size]!)) [(0,v1),(1,v2)]=some #[v1,v2]:=by
  have hr:∀f:Nat→Value,(Array.range (2 * 1)).map f= #[f 0,f 1]:=fun f=>Array.toList_inj.1 (by rw [Array.toList_map,Array.toList_range];rfl)
  rw [hr]
  simp [Instr.fill,c0,c1]
 have kk:Kept [] w (w.alloc (.cells #[v1,v2] 23)):=(Kept.refl [] w).alloc _
 exact wp_buildSlice _ _ 2 _ ho #[v1,v2] q _ a3a.1 hq hz (by rw [hs];omega) (by rw [hs];omega) (by rw [hs];exact(congrArg (Instr.fill _ _) hv).trans hf) (h _ _ kk ⟨v1,v2,d0j (Blk.new w _ _) (a2g.a0o e kk) (a2g.a0o e2 kk)⟩)
end
theorem b3u{a:Act}{o:Oper}{x:Nat}{v:Value}{bs:List UInt8}{u:World}(ho:o.op= .convert 23 9 (.tmp x))(hx:a.tmps.getD x undef=v)(hr:a2g bs v u):(execOp a.eval o).run Tryz.prog u= .ok (.value (.string (mkS bs))) u:=by
 have h:=a8a (P:=Tryz.prog) (s:=23) (d:=9) (e:=5) rfl rfl rfl hr
 simp [execOp,ho,Act.eval,hx,h]
theorem b2w{a:Act}{o:Oper}{x y:Nat}{s:ByteArray}{u:World}{t':TypeId}(ho:o.op= .binOp .neq 9 (.tmp x) (.tmp y) t')(hx:a.tmps.getD x undef= .string s)(hy:a.tmps.getD y undef= .string s):(execOp a.eval o).run Tryz.prog u= .ok (.value (.bool false)) u:=by
 have h1:=run_equalIn_string (P:=Tryz.prog) u 9999 9 s s Tryz.underlying9
 simp [execOp,ho,Act.eval,hx,hy,binOp,Op.equal,Op.maxDepth,h1,eqGuard,Op.stringOp]
theorem b1q(xs:Array Value)(w:World):(callFunc 18 xs).run Tryz.prog w= .ok (.enter 18 xs) w:=enters_of (c:=_) Tryz.func18 (by kernel_rfl) rfl xs w
theorem b0a(xs:Array Value)(w:World):(callFunc 17 xs).run Tryz.prog w= .ok (.enter 17 xs) w:=enters_of (c:=_) Tryz.func17 (by kernel_rfl) rfl xs w
theorem b7u(bs:List UInt8):∀u∈(a4w bs).1,UL u:=by
 unfold a4w
 split
 ·intro u hu;cases hu
 ·split
  ·intro u hu;cases hu
  ·exact c1f _ _
theorem b6j(bs:List UInt8):(a4w bs).1.length≤65536:=by
 unfold a4w
 split
 ·simp
 ·split
  ·simp
  ·exact Nat.le_trans (b1b _ _) (b4j _ _)
set_option maxHeartbeats 6400000 in
theorem c9m{us lu:List Upd}{B DG bs:List UInt8}{v:Value}(bw:Value){w:World}{LB:Option Addr}{d:Nat}(rd:Rd w 129 v us.length (us.flatMap uC))(rb:Rd w 1 bw bs.length (bv bs))(htest:(20:Int) < us.length)
 (hlu:lu.length≤20) (hsl:∀W,(Instr.sliceAt 40 v none (some (.int .i64 20)) none).run Tryz.prog W= .ok (.slice LB lu.length d) W) (hrow:∀u,Kept [] w u→Rd u 129 (.slice LB lu.length d) lu.length (lu.flatMap uC))
 (hDG:DG.length=32) (hBl:B.length≤140737488351232) (hbl:bs.length≤140737488351232)
 (cb:∀u x,Rd u 129 x lu.length (lu.flatMap uC)→Calls Tryz.prog 16 #[x] u fun e w'=>∃v',e= .returned v'∧New u w' v' B)
 (cr:∀u x,Rd u 129 x lu.length (lu.flatMap uC)→Calls Tryz.prog 17 #[x] u fun e w'=>∃v',e= .returned v'∧a2g B v' w'∧Kept [] u w')
 (cd:∀u x,Rd u 129 x lu.length (lu.flatMap uC)→Calls Tryz.prog 18 #[x] u fun e w'=>e= .returned (ab DG)∧Kept [] u w')
 (cs:∀u x,c9x [4] B x u→Calls Tryz.prog 19 #[x] u fun e w'=>e= .returned (ab DG)∧Kept [] u w') :
 Calls Tryz.prog 5 #[v,bw] w fun e w'=>e= .returned (.bool true)∧Kept [] w w':=by
 have c1:=hjd b7e
 replace hrow:=hjd hrow
 replace hDG:=hjd hDG
 replace hBl:=hjd hBl
 replace hbl:=hjd hbl
 replace cb:=hjd cb
 replace cr:=hjd cr
 replace cd:=hjd cd
 replace cs:=hjd cs
 replace hlu:=hjd hlu
 have HB:=hjd (show a2g bs bw w from rb)
 obtain⟨BA,bc,rfl,_⟩:=rb
 obtain⟨VA,vc,rfl,_⟩:=rd
 go_enter Tryz.func5,Tryz.ntmps5
 go_wp2_with (first
  | (go_at_call 15;(with_reducible refine(c1.out _).mono ?_);rintro e v14 ⟨rfl,kk⟩;have KK:=hjd kk;clear kk)
  | (go_at_call 16;(with_reducible refine(cb.out _ _ (hrow.out _ KK.out)).mono ?_);rintro e v22 ⟨x22,rfl,h22⟩
     have RX:=hjd h22.rd
     replace KK:=hjd (KK.out.a0g h22.kept)
     obtain⟨XA,xc,rfl,_⟩:=h22.ow.shape
     clear h22))
 have RL:=hjd (hrow.out _ KK.out)
 refine Txt.c5z (by kernel_rfl) [Txt.isV (.slice XA B.length xc),Txt.isV (.string (mkS B)),Txt.isV (.slice LB lu.length d),a2g B,Txt.isV (.string (mkS B)),Txt.isV (.bool false),Txt.isV (.bool false),Txt.isV (.slice LB lu.length d),Txt.isV (ab DG),a2g [4],Txt.isV (.slice XA B.length xc),c9x [4] B,Txt.isV (ab DG),Txt.isV (.bool false)] (fun _ u=>Kept [] v22 u) (fun _=>[]) (by kernel_rfl) (by kernel_rfl) (by simp) (by kernel_rfl) ((Kept.refl [] v22).drew) (fun _ _ _ _ h=>h) (fun _ _ _ _ _ h k=>h.a0g k) ⟨?_,?_,?_,?_,?_,?_,?_,?_,?_,?_,?_,?_,?_,?_,trivial⟩ ?_
 ·exact a2t.ofR (.inl rfl) (a1w (x:=6) rfl (by decide) fun a W hx=>a3v rfl W hx)
 ·refine a2t.ofR (.inl rfl) (a4i fun a u hS hr _=>?_)
  have e0:=hr 0 _ 23 _ rfl rfl rfl ⟨⟨0,.data⟩,by simp,rfl,rfl⟩
  exact b3u (v:=(.slice XA B.length xc)) rfl e0 (a2g.a0o RX.out hS)
 ·exact a2t.ofR (.inl rfl) (a1w (x:=5) rfl (by decide) fun a W hx=>a3v rfl W hx)
 ·refine a2t.ofR (.inl rfl) (Txt.a1y rfl b0a (fun v u u2 h k=>a2g.a0o h k) fun a u hS hr _=>?_)
  have e0:a.tmps.getD 25 undef=(.slice LB lu.length d):=hr 2 _ 25 _ rfl rfl rfl ⟨⟨2,.data⟩,by simp,rfl,rfl⟩
  have hm:Array.map a.eval #[.tmp 25]= #[(.slice LB lu.length d)]:=by simp only [List.map_toArray,List.map_cons,List.map_nil,Act.eval,e0]
  rw [hm]
  refine(cr.out u _ (RL.out.a0o hS)).mono ?_
  rintro e u2 ⟨v,rfl,h,hk⟩
  exact⟨v,rfl,h,hk⟩
 ·refine a2t.ofR (.inl rfl) (a4i fun a u hS hr _=>?_)
  have e0:a2g B (a.tmps.getD 26 undef) u:=hr 3 _ 26 _ rfl rfl rfl ⟨⟨3,.data⟩,by simp,rfl,rfl⟩
  exact b3u rfl rfl e0
 ·refine a2t.ofR (.inl rfl) (a4i fun a u hS hr _=>?_)
  have e0:a.tmps.getD 24 undef= .string (mkS B):=hr 1 _ 24 _ rfl rfl rfl ⟨⟨1,.data⟩,by simp,rfl,rfl⟩
  have e1:a.tmps.getD 27 undef= .string (mkS B):=hr 4 _ 27 _ rfl rfl rfl ⟨⟨4,.data⟩,by simp,rfl,rfl⟩
  exact b2w rfl e0 e1
 ·refine a2t.ofR (.inl rfl) (a4i fun a u hS hr _=>?_)
  have e0:=hr 5 _ 28 _ rfl rfl rfl ⟨⟨5,.data⟩,by simp,rfl,rfl⟩
  exact a3v rfl u e0
 ·exact a2t.ofR (.inr ⟨6,false,rfl,rfl⟩) (a1w (x:=5) rfl (by decide) fun a W hx=>a3v rfl W hx)
 ·refine a2t.ofR (.inr ⟨6,false,rfl,rfl⟩) (Txt.a1y rfl b1q (fun _ _ _ h _=>h) fun a u hS hr _=>?_)
  have e0:a.tmps.getD 30 undef=(.slice LB lu.length d):=hr 7 _ 30 _ rfl rfl rfl ⟨⟨7,.data⟩,by simp,rfl,rfl⟩
  have hm:Array.map a.eval #[.tmp 30]= #[(.slice LB lu.length d)]:=by simp only [List.map_toArray,List.map_cons,List.map_nil,Act.eval,e0]
  rw [hm]
  refine(cd.out u _ (RL.out.a0o hS)).mono ?_
  rintro e u2 ⟨rfl,hk⟩
  exact⟨_,rfl,rfl,hk⟩
 ·exact a2t.ofR (.inr ⟨6,false,rfl,rfl⟩) (b4s (b:=4) rfl rfl)
 ·exact a2t.ofR (.inr ⟨6,false,rfl,rfl⟩) (a1w (x:=6) rfl (by decide) fun a W hx=>a3v rfl W hx)
 ·exact a2t.ofR (.inr ⟨6,false,rfl,rfl⟩) (c0h (x:=32) (y:=33) (i:=9) (j:=10) rfl RX.out rfl rfl rfl ⟨⟨9,.data⟩,by simp,rfl,rfl⟩ rfl rfl rfl ⟨⟨10,.data⟩,by simp,rfl,rfl⟩)
 ·refine a2t.ofR (.inr ⟨6,false,rfl,rfl⟩) (Txt.a1y rfl b5d (fun _ _ _ h _=>h) fun a u hS hr _=>?_)
  have e0:c9x [4] B (a.tmps.getD 34 undef) u:=hr 11 _ 34 _ rfl rfl rfl ⟨⟨11,.data⟩,by simp,rfl,rfl⟩
  have hm:Array.map a.eval #[.tmp 34]= #[a.tmps.getD 34 undef]:=by simp only [List.map_toArray,List.map_cons,List.map_nil,Act.eval]
  rw [hm]
  refine(cs.out u _ e0).mono ?_
  rintro e u2 ⟨rfl,hk⟩
  exact⟨_,rfl,rfl,hk⟩
 ·refine a2t.ofR (.inr ⟨6,false,rfl,rfl⟩) (a4i fun a u hS hr _=>?_)
  have e0:a.tmps.getD 31 undef=ab DG:=hr 8 _ 31 _ rfl rfl rfl ⟨⟨8,.data⟩,by simp,rfl,rfl⟩
  have e1:a.tmps.getD 35 undef=ab DG:=hr 12 _ 35 _ rfl rfl rfl ⟨⟨12,.data⟩,by simp,rfl,rfl⟩
  exact(a3d a2f Tryz.underlying5 (by kernel_rfl) (by kernel_rfl) (.tmp 31) (.tmp 35) rfl (xs:=DG) (ys:=DG) e0 e1 hDG.out hDG.out).trans (by rw [beq_self_eq_true];rfl)
 intro v wc kc hv
 have q0:v 0=(.slice XA B.length xc):=hv 0 _ rfl
 have q1:v 1= .string (mkS B):=hv 1 _ rfl
 have q2:v 2=(.slice LB lu.length d):=hv 2 _ rfl
 have q4:v 4= .string (mkS B):=hv 4 _ rfl
 have q5:v 5= .bool false:=hv 5 _ rfl
 have q6:v 6= .bool false:=hv 6 _ rfl
 have q7:v 7=(.slice LB lu.length d):=hv 7 _ rfl
 have q8:v 8=ab DG:=hv 8 _ rfl
 have q10:v 10=(.slice XA B.length xc):=hv 10 _ rfl
 have q12:v 12=ab DG:=hv 12 _ rfl
 have q13:v 13= .bool false:=hv 13 _ rfl
 clear hv
 simp [Txt.a0z,List.range,List.range.loop,Act.put,q0,q1,q2,q4,q5,q6,q7,q8,q10,q12,q13]
 generalize v 3=u3 at *
 generalize v 9=u9 at *
 generalize v 11=u11 at *
 clear q0 q1 q2 q4 q5 q6 q7 q8 q10 q12 q13
 unfold Txt.b0h
 refine a8c (v:=.bool false) rfl ?_
 unfold Txt.b0h
 simp [Act.put]
 replace KK:=hjd (KK.out.a0g kc)
 replace RX:=hjd (a2g.a0o RX.out kc)
 have RB:=hjd (a2g.a0o HB.out KK.out)
 clear kc
 go_wp2_with (first
  | ((with_reducible refine a0l 40 ?_);(refine a6p (o:=⟨some 40,_,_,_,_,_⟩) rfl a3a rfl rfl rfl rfl rfl ?_);intro g40 w40 m40
     have B40:=hjd (show Blk w40 g40 23 #[.slice XA B.length xc,.slice BA bs.length bc]from m40.blk)
     replace RX:=hjd (a2g.a0o RX.out m40.kept)
     replace RB:=hjd (a2g.a0o RB.out m40.kept)
     replace KK:=hjd (KK.out.a0g m40.kept)
     clear m40))
 go_loopg [42] 2 (fun f x42 wk=>∃j:Nat,j≤2∧f + j=2∧x42= .int .i64 (j:Int)∧Hid (Kept [] w40 wk))
 case atStart=>exact⟨0,by omega,by omega,rfl,hjd (Kept.refl _ _)⟩
 case round=>
  obtain⟨j,hj,hf,rfl,hwk⟩:=hrel
  by_cases hlt:j < 2
  ·obtain⟨A,c,l,qc,hl,hll⟩:∃(A:Option Addr) (c:Nat) (l:List UInt8),wr.cell? ⟨g40,j,none⟩=some (.slice A l.length c)∧a2g l (.slice A l.length c) wr∧l.length≤140737488351232:=by
    have BB:=B40.out.kept hwk.out (by simp)
    obtain rfl | rfl:j=0∨j=1:=by omega
    ·exact⟨_,_,_,BB.cell 0,a2g.a0o RX.out hwk.out,hBl.out⟩
    ·exact⟨_,_,_,BB.cell 1,a2g.a0o RB.out hwk.out,hbl.out⟩
   have R:=hjd hl
   have cp:=hjd (fun u (h:a2g l (.slice A l.length c) u)=>b7f (.slice A l.length c) u h hll)
   have crp:=hjd (fun u (h:a2g l (.slice A l.length c) u)=>b5v (.slice A l.length c) u h hll)
   have hu:=hjd (b7u l)
   have hul:=hjd (b6j l)
   have hback:=hjd (fun h=>b7h (bs:=l) h)
   obtain⟨PU,hPU⟩:∃PU,a4w l=PU:=⟨_,rfl⟩
   rw [hPU]at cp crp hu hul hback
   clear hPU hll
   have cq:=hjd (fun u va vb ha hb=>c1q (us:=PU.1) va vb u ha hb hu.out (by have:=hul.out;omega))
   have cub:=hjd (fun u x h=>a9r (us:=PU.1) x u h hu.out (by have:=hul.out;omega))
   have hs0:=a8a (P:=Tryz.prog) (s:=23) (d:=9) (e:=5) rfl rfl rfl hl
   clear hl
   by_cases hz:PU.2=0
   ·have hb3:=hjd (hback.out hz)
    rw [hz]at cp crp
    replace hz:=hjd hz
    go_wp2_with (first
     | ((with_reducible refine a0l 44 ?_);refine a5h (o:=⟨some 44,_,_,_,_,_⟩) a3a rfl (.tmp 40) (.tmp 42) rfl rfl rfl hlt ?_)
     | (go_at_call 20;(with_reducible refine(cp.out _ R.out).mono ?_);rintro e v50 ⟨x50,rfl,r50,k50⟩
        replace hwk:=hjd (hwk.out.a0g k50)
        replace R:=hjd (a2g.a0o R.out k50)
        have P1:=hjd r50
        clear r50 k50)
     | (go_at_call 21;(with_reducible refine(crp.out _ R.out).mono ?_);rintro e v55 ⟨x55,rfl,r55,k55⟩
        replace hwk:=hjd (hwk.out.a0g k55)
        replace R:=hjd (a2g.a0o R.out k55)
        replace P1:=hjd (P1.out.a0o k55)
        have P2:=hjd r55
        clear r55 k55)
     | (go_at_call 22;(with_reducible refine(cq.out _ _ _ P1.out P2.out).mono ?_);rintro e v64 ⟨rfl,k64⟩
        replace hwk:=hjd (hwk.out.a0g k64)
        replace R:=hjd (a2g.a0o R.out k64)
        replace P1:=hjd (P1.out.a0o k64)
        have hs1:=a8a (P:=Tryz.prog) (s:=23) (d:=9) (e:=5) rfl rfl rfl R.out
        clear k64 hs0)
     | (go_at_call 16;(with_reducible refine(cub.out _ _ P1.out).mono ?_);rintro e v78 ⟨x78,rfl,h78⟩
        rw [hb3.out]at h78
        replace hwk:=hjd (hwk.out.a0g h78.kept)
        have hs2:=a8a (P:=Tryz.prog) (s:=23) (d:=9) (e:=5) rfl rfl rfl h78.rd
        clear h78))
    go_roundg (2 - (j + 1))
    case measure=>omega
    case rel=>exact⟨j + 1,by omega,by omega,by go_num,hwk⟩
   ·have hz2:(PU.2 == 0)=false:=by simpa using hz
    go_wp2_with (first
     | ((with_reducible refine a0l 44 ?_);refine a5h (o:=⟨some 44,_,_,_,_,_⟩) a3a rfl (.tmp 40) (.tmp 42) rfl rfl rfl hlt ?_)
     | (go_at_call 20;(with_reducible refine(cp.out _ R.out).mono ?_);rintro e v50 ⟨x50,rfl,r50,k50⟩
        replace hwk:=hjd (hwk.out.a0g k50)
        replace R:=hjd (a2g.a0o R.out k50)
        have P1:=hjd r50
        clear r50 k50)
     | (go_at_call 21;(with_reducible refine(crp.out _ R.out).mono ?_);rintro e v55 ⟨x55,rfl,r55,k55⟩
        replace hwk:=hjd (hwk.out.a0g k55)
        replace R:=hjd (a2g.a0o R.out k55)
        replace P1:=hjd (P1.out.a0o k55)
        have P2:=hjd r55
        clear r55 k55)
     | (go_at_call 22;(with_reducible refine(cq.out _ _ _ P1.out P2.out).mono ?_);rintro e v64 ⟨rfl,k64⟩
        replace hwk:=hjd (hwk.out.a0g k64)
        replace R:=hjd (a2g.a0o R.out k64)
        have hs1:=a8a (P:=Tryz.prog) (s:=23) (d:=9) (e:=5) rfl rfl rfl R.out
        clear k64 hs0))
    go_roundg (2 - (j + 1))
    case measure=>omega
    case rel=>exact⟨j + 1,by omega,by omega,by go_num,hwk⟩
  ·obtain rfl:j=2:=by omega
   go_wp2_with fail
   go_ret
   exact⟨rfl,KK.out.a0g hwk.out⟩
set_option maxHeartbeats 6400000 in
theorem b9w{us lu:List Upd}{B DG bs:List UInt8}{v:Value}(bw:Value){w:World}{LB:Option Addr}{d:Nat}(rd:Rd w 129 v us.length (us.flatMap uC))(rb:Rd w 1 bw bs.length (bv bs))(htest:¬((20:Int) < us.length))
 (hlu:lu.length≤20) (hsl:∀W,(Instr.sliceAt 40 v none (some (.int .i64 (us.length:Int))) none).run Tryz.prog W= .ok (.slice LB lu.length d) W) (hrow:∀u,Kept [] w u→Rd u 129 (.slice LB lu.length d) lu.length (lu.flatMap uC))
 (hDG:DG.length=32) (hBl:B.length≤140737488351232) (hbl:bs.length≤140737488351232)
 (cb:∀u x,Rd u 129 x lu.length (lu.flatMap uC)→Calls Tryz.prog 16 #[x] u fun e w'=>∃v',e= .returned v'∧New u w' v' B)
 (cr:∀u x,Rd u 129 x lu.length (lu.flatMap uC)→Calls Tryz.prog 17 #[x] u fun e w'=>∃v',e= .returned v'∧a2g B v' w'∧Kept [] u w')
 (cd:∀u x,Rd u 129 x lu.length (lu.flatMap uC)→Calls Tryz.prog 18 #[x] u fun e w'=>e= .returned (ab DG)∧Kept [] u w')
 (cs:∀u x,c9x [4] B x u→Calls Tryz.prog 19 #[x] u fun e w'=>e= .returned (ab DG)∧Kept [] u w') :
 Calls Tryz.prog 5 #[v,bw] w fun e w'=>e= .returned (.bool true)∧Kept [] w w':=by
 have c1:=hjd b7e
 replace hrow:=hjd hrow
 replace hDG:=hjd hDG
 replace hBl:=hjd hBl
 replace hbl:=hjd hbl
 replace cb:=hjd cb
 replace cr:=hjd cr
 replace cd:=hjd cd
 replace cs:=hjd cs
 replace hlu:=hjd hlu
 have HB:=hjd (show a2g bs bw w from rb)
 obtain⟨BA,bc,rfl,_⟩:=rb
 obtain⟨VA,vc,rfl,_⟩:=rd
 go_enter Tryz.func5,Tryz.ntmps5
 go_wp2_with (first
  | (go_at_call 15;(with_reducible refine(c1.out _).mono ?_);rintro e v14 ⟨rfl,kk⟩;have KK:=hjd kk;clear kk)
  | (go_at_call 16;(with_reducible refine(cb.out _ _ (hrow.out _ KK.out)).mono ?_);rintro e v22 ⟨x22,rfl,h22⟩
     have RX:=hjd h22.rd
     replace KK:=hjd (KK.out.a0g h22.kept)
     obtain⟨XA,xc,rfl,_⟩:=h22.ow.shape
     clear h22))
 have RL:=hjd (hrow.out _ KK.out)
 refine Txt.c5z (by kernel_rfl) [Txt.isV (.slice XA B.length xc),Txt.isV (.string (mkS B)),Txt.isV (.slice LB lu.length d),a2g B,Txt.isV (.string (mkS B)),Txt.isV (.bool false),Txt.isV (.bool false),Txt.isV (.slice LB lu.length d),Txt.isV (ab DG),a2g [4],Txt.isV (.slice XA B.length xc),c9x [4] B,Txt.isV (ab DG),Txt.isV (.bool false)] (fun _ u=>Kept [] v22 u) (fun _=>[]) (by kernel_rfl) (by kernel_rfl) (by simp) (by kernel_rfl) ((Kept.refl [] v22).drew) (fun _ _ _ _ h=>h) (fun _ _ _ _ _ h k=>h.a0g k) ⟨?_,?_,?_,?_,?_,?_,?_,?_,?_,?_,?_,?_,?_,?_,trivial⟩ ?_
 ·exact a2t.ofR (.inl rfl) (a1w (x:=6) rfl (by decide) fun a W hx=>a3v rfl W hx)
 ·refine a2t.ofR (.inl rfl) (a4i fun a u hS hr _=>?_)
  have e0:=hr 0 _ 23 _ rfl rfl rfl ⟨⟨0,.data⟩,by simp,rfl,rfl⟩
  exact b3u (v:=(.slice XA B.length xc)) rfl e0 (a2g.a0o RX.out hS)
 ·exact a2t.ofR (.inl rfl) (a1w (x:=5) rfl (by decide) fun a W hx=>a3v rfl W hx)
 ·refine a2t.ofR (.inl rfl) (Txt.a1y rfl b0a (fun v u u2 h k=>a2g.a0o h k) fun a u hS hr _=>?_)
  have e0:a.tmps.getD 25 undef=(.slice LB lu.length d):=hr 2 _ 25 _ rfl rfl rfl ⟨⟨2,.data⟩,by simp,rfl,rfl⟩
  have hm:Array.map a.eval #[.tmp 25]= #[(.slice LB lu.length d)]:=by simp only [List.map_toArray,List.map_cons,List.map_nil,Act.eval,e0]
  rw [hm]
  refine(cr.out u _ (RL.out.a0o hS)).mono ?_
  rintro e u2 ⟨v,rfl,h,hk⟩
  exact⟨v,rfl,h,hk⟩
 ·refine a2t.ofR (.inl rfl) (a4i fun a u hS hr _=>?_)
  have e0:a2g B (a.tmps.getD 26 undef) u:=hr 3 _ 26 _ rfl rfl rfl ⟨⟨3,.data⟩,by simp,rfl,rfl⟩
  exact b3u rfl rfl e0
 ·refine a2t.ofR (.inl rfl) (a4i fun a u hS hr _=>?_)
  have e0:a.tmps.getD 24 undef= .string (mkS B):=hr 1 _ 24 _ rfl rfl rfl ⟨⟨1,.data⟩,by simp,rfl,rfl⟩
  have e1:a.tmps.getD 27 undef= .string (mkS B):=hr 4 _ 27 _ rfl rfl rfl ⟨⟨4,.data⟩,by simp,rfl,rfl⟩
  exact b2w rfl e0 e1
 ·refine a2t.ofR (.inl rfl) (a4i fun a u hS hr _=>?_)
  have e0:=hr 5 _ 28 _ rfl rfl rfl ⟨⟨5,.data⟩,by simp,rfl,rfl⟩
  exact a3v rfl u e0
 ·exact a2t.ofR (.inr ⟨6,false,rfl,rfl⟩) (a1w (x:=5) rfl (by decide) fun a W hx=>a3v rfl W hx)
 ·refine a2t.ofR (.inr ⟨6,false,rfl,rfl⟩) (Txt.a1y rfl b1q (fun _ _ _ h _=>h) fun a u hS hr _=>?_)
  have e0:a.tmps.getD 30 undef=(.slice LB lu.length d):=hr 7 _ 30 _ rfl rfl rfl ⟨⟨7,.data⟩,by simp,rfl,rfl⟩
  have hm:Array.map a.eval #[.tmp 30]= #[(.slice LB lu.length d)]:=by simp only [List.map_toArray,List.map_cons,List.map_nil,Act.eval,e0]
  rw [hm]
  refine(cd.out u _ (RL.out.a0o hS)).mono ?_
  rintro e u2 ⟨rfl,hk⟩
  exact⟨_,rfl,rfl,hk⟩
 ·exact a2t.ofR (.inr ⟨6,false,rfl,rfl⟩) (b4s (b:=4) rfl rfl)
 ·exact a2t.ofR (.inr ⟨6,false,rfl,rfl⟩) (a1w (x:=6) rfl (by decide) fun a W hx=>a3v rfl W hx)
 ·exact a2t.ofR (.inr ⟨6,false,rfl,rfl⟩) (c0h (x:=32) (y:=33) (i:=9) (j:=10) rfl RX.out rfl rfl rfl ⟨⟨9,.data⟩,by simp,rfl,rfl⟩ rfl rfl rfl ⟨⟨10,.data⟩,by simp,rfl,rfl⟩)
 ·refine a2t.ofR (.inr ⟨6,false,rfl,rfl⟩) (Txt.a1y rfl b5d (fun _ _ _ h _=>h) fun a u hS hr _=>?_)
  have e0:c9x [4] B (a.tmps.getD 34 undef) u:=hr 11 _ 34 _ rfl rfl rfl ⟨⟨11,.data⟩,by simp,rfl,rfl⟩
  have hm:Array.map a.eval #[.tmp 34]= #[a.tmps.getD 34 undef]:=by simp only [List.map_toArray,List.map_cons,List.map_nil,Act.eval]
  rw [hm]
  refine(cs.out u _ e0).mono ?_
  rintro e u2 ⟨rfl,hk⟩
  exact⟨_,rfl,rfl,hk⟩
 ·refine a2t.ofR (.inr ⟨6,false,rfl,rfl⟩) (a4i fun a u hS hr _=>?_)
  have e0:a.tmps.getD 31 undef=ab DG:=hr 8 _ 31 _ rfl rfl rfl ⟨⟨8,.data⟩,by simp,rfl,rfl⟩
  have e1:a.tmps.getD 35 undef=ab DG:=hr 12 _ 35 _ rfl rfl rfl ⟨⟨12,.data⟩,by simp,rfl,rfl⟩
  exact(a3d a2f Tryz.underlying5 (by kernel_rfl) (by kernel_rfl) (.tmp 31) (.tmp 35) rfl (xs:=DG) (ys:=DG) e0 e1 hDG.out hDG.out).trans (by rw [beq_self_eq_true];rfl)
 intro v wc kc hv
 have q0:v 0=(.slice XA B.length xc):=hv 0 _ rfl
 have q1:v 1= .string (mkS B):=hv 1 _ rfl
 have q2:v 2=(.slice LB lu.length d):=hv 2 _ rfl
 have q4:v 4= .string (mkS B):=hv 4 _ rfl
 have q5:v 5= .bool false:=hv 5 _ rfl
 have q6:v 6= .bool false:=hv 6 _ rfl
 have q7:v 7=(.slice LB lu.length d):=hv 7 _ rfl
 have q8:v 8=ab DG:=hv 8 _ rfl
 have q10:v 10=(.slice XA B.length xc):=hv 10 _ rfl
 have q12:v 12=ab DG:=hv 12 _ rfl
 have q13:v 13= .bool false:=hv 13 _ rfl
 clear hv
 simp [Txt.a0z,List.range,List.range.loop,Act.put,q0,q1,q2,q4,q5,q6,q7,q8,q10,q12,q13]
 generalize v 3=u3 at *
 generalize v 9=u9 at *
 generalize v 11=u11 at *
 clear q0 q1 q2 q4 q5 q6 q7 q8 q10 q12 q13
 unfold Txt.b0h
 refine a8c (v:=.bool false) rfl ?_
 unfold Txt.b0h
 simp [Act.put]
 replace KK:=hjd (KK.out.a0g kc)
 replace RX:=hjd (a2g.a0o RX.out kc)
 have RB:=hjd (a2g.a0o HB.out KK.out)
 clear kc
 go_wp2_with (first
  | ((with_reducible refine a0l 40 ?_);(refine a6p (o:=⟨some 40,_,_,_,_,_⟩) rfl a3a rfl rfl rfl rfl rfl ?_);intro g40 w40 m40
     have B40:=hjd (show Blk w40 g40 23 #[.slice XA B.length xc,.slice BA bs.length bc]from m40.blk)
     replace RX:=hjd (a2g.a0o RX.out m40.kept)
     replace RB:=hjd (a2g.a0o RB.out m40.kept)
     replace KK:=hjd (KK.out.a0g m40.kept)
     clear m40))
 go_loopg [42] 2 (fun f x42 wk=>∃j:Nat,j≤2∧f + j=2∧x42= .int .i64 (j:Int)∧Hid (Kept [] w40 wk))
 case atStart=>exact⟨0,by omega,by omega,rfl,hjd (Kept.refl _ _)⟩
 case round=>
  obtain⟨j,hj,hf,rfl,hwk⟩:=hrel
  by_cases hlt:j < 2
  ·obtain⟨A,c,l,qc,hl,hll⟩:∃(A:Option Addr) (c:Nat) (l:List UInt8),wr.cell? ⟨g40,j,none⟩=some (.slice A l.length c)∧a2g l (.slice A l.length c) wr∧l.length≤140737488351232:=by
    have BB:=B40.out.kept hwk.out (by simp)
    obtain rfl | rfl:j=0∨j=1:=by omega
    ·exact⟨_,_,_,BB.cell 0,a2g.a0o RX.out hwk.out,hBl.out⟩
    ·exact⟨_,_,_,BB.cell 1,a2g.a0o RB.out hwk.out,hbl.out⟩
   have R:=hjd hl
   have cp:=hjd (fun u (h:a2g l (.slice A l.length c) u)=>b7f (.slice A l.length c) u h hll)
   have crp:=hjd (fun u (h:a2g l (.slice A l.length c) u)=>b5v (.slice A l.length c) u h hll)
   have hu:=hjd (b7u l)
   have hul:=hjd (b6j l)
   have hback:=hjd (fun h=>b7h (bs:=l) h)
   obtain⟨PU,hPU⟩:∃PU,a4w l=PU:=⟨_,rfl⟩
   rw [hPU]at cp crp hu hul hback
   clear hPU hll
   have cq:=hjd (fun u va vb ha hb=>c1q (us:=PU.1) va vb u ha hb hu.out (by have:=hul.out;omega))
   have cub:=hjd (fun u x h=>a9r (us:=PU.1) x u h hu.out (by have:=hul.out;omega))
   have hs0:=a8a (P:=Tryz.prog) (s:=23) (d:=9) (e:=5) rfl rfl rfl hl
   clear hl
   by_cases hz:PU.2=0
   ·have hb3:=hjd (hback.out hz)
    rw [hz]at cp crp
    replace hz:=hjd hz
    go_wp2_with (first
     | ((with_reducible refine a0l 44 ?_);refine a5h (o:=⟨some 44,_,_,_,_,_⟩) a3a rfl (.tmp 40) (.tmp 42) rfl rfl rfl hlt ?_)
     | (go_at_call 20;(with_reducible refine(cp.out _ R.out).mono ?_);rintro e v50 ⟨x50,rfl,r50,k50⟩
        replace hwk:=hjd (hwk.out.a0g k50)
        replace R:=hjd (a2g.a0o R.out k50)
        have P1:=hjd r50
        clear r50 k50)
     | (go_at_call 21;(with_reducible refine(crp.out _ R.out).mono ?_);rintro e v55 ⟨x55,rfl,r55,k55⟩
        replace hwk:=hjd (hwk.out.a0g k55)
        replace R:=hjd (a2g.a0o R.out k55)
        replace P1:=hjd (P1.out.a0o k55)
        have P2:=hjd r55
        clear r55 k55)
     | (go_at_call 22;(with_reducible refine(cq.out _ _ _ P1.out P2.out).mono ?_);rintro e v64 ⟨rfl,k64⟩
        replace hwk:=hjd (hwk.out.a0g k64)
        replace R:=hjd (a2g.a0o R.out k64)
        replace P1:=hjd (P1.out.a0o k64)
        have hs1:=a8a (P:=Tryz.prog) (s:=23) (d:=9) (e:=5) rfl rfl rfl R.out
        clear k64 hs0)
     | (go_at_call 16;(with_reducible refine(cub.out _ _ P1.out).mono ?_);rintro e v78 ⟨x78,rfl,h78⟩
        rw [hb3.out]at h78
        replace hwk:=hjd (hwk.out.a0g h78.kept)
        have hs2:=a8a (P:=Tryz.prog) (s:=23) (d:=9) (e:=5) rfl rfl rfl h78.rd
        clear h78))
    go_roundg (2 - (j + 1))
    case measure=>omega
    case rel=>exact⟨j + 1,by omega,by omega,by go_num,hwk⟩
   ·have hz2:(PU.2 == 0)=false:=by simpa using hz
    go_wp2_with (first
     | ((with_reducible refine a0l 44 ?_);refine a5h (o:=⟨some 44,_,_,_,_,_⟩) a3a rfl (.tmp 40) (.tmp 42) rfl rfl rfl hlt ?_)
     | (go_at_call 20;(with_reducible refine(cp.out _ R.out).mono ?_);rintro e v50 ⟨x50,rfl,r50,k50⟩
        replace hwk:=hjd (hwk.out.a0g k50)
        replace R:=hjd (a2g.a0o R.out k50)
        have P1:=hjd r50
        clear r50 k50)
     | (go_at_call 21;(with_reducible refine(crp.out _ R.out).mono ?_);rintro e v55 ⟨x55,rfl,r55,k55⟩
        replace hwk:=hjd (hwk.out.a0g k55)
        replace R:=hjd (a2g.a0o R.out k55)
        replace P1:=hjd (P1.out.a0o k55)
        have P2:=hjd r55
        clear r55 k55)
     | (go_at_call 22;(with_reducible refine(cq.out _ _ _ P1.out P2.out).mono ?_);rintro e v64 ⟨rfl,k64⟩
        replace hwk:=hjd (hwk.out.a0g k64)
        replace R:=hjd (a2g.a0o R.out k64)
        have hs1:=a8a (P:=Tryz.prog) (s:=23) (d:=9) (e:=5) rfl rfl rfl R.out
        clear k64 hs0))
    go_roundg (2 - (j + 1))
    case measure=>omega
    case rel=>exact⟨j + 1,by omega,by omega,by go_num,hwk⟩
  ·obtain rfl:j=2:=by omega
   go_wp2_with fail
   go_ret
   exact⟨rfl,KK.out.a0g hwk.out⟩
end Go.Proofs.YtdbngnlpafcogaaGreat
namespace Go.Proofs.YtdbngnlpafcogaaGreat
open Go.ChangeShapes Go.WideShapes Go.ChangeAt Go.RowKit Go.Mem
theorem e4b{us:List Upd}(h:∀u∈us,UL u):∀j,j≤us.length→(us.flatMap uC).take (j * 129)=(us.take j).flatMap uC:=by
 intro j hj
 have e:us.flatMap uC=(us.take j).flatMap uC ++ (us.drop j).flatMap uC:=by rw [←List.flatMap_append,List.take_append_drop]
 have hl:=b7d (b0m h j)
 rw [List.length_take,Nat.min_eq_left hj]at hl
 rw [e,List.take_append_of_le_length (by omega),List.take_of_length_le (by omega)]
theorem c7t{us:List Upd}{v:Value}{w:World}(hr:Rd w 129 v us.length (us.flatMap uC))(hu:∀u∈us,UL u){j:Nat}(hj:j≤us.length) :
 ∃B d,(∀W,(Instr.sliceAt 40 v none (some (.int .i64 (j:Int))) none).run Tryz.prog W= .ok (.slice B j d) W)∧∀u,Kept [] w u→Rd u 129 (.slice B j d) (us.take j).length ((us.take j).flatMap uC):=by
 obtain⟨B,d,h1,h2,_,_⟩:=cut_to a6c hr .i64 j hj
 refine⟨B,d,h1,fun u hk=>?_⟩
 have hlj:(us.take j).length=j:=by rw [List.length_take];omega
 rw [hlj,←e4b hu j hj]
 exact h2.a0o hk
theorem c8i(v:Value)(us:List Upd)(b:Value)(bs:List UInt8)(w:World)(rd:Rd w 129 v us.length (us.flatMap uC))(_:us.length≤9223372036854775807)(hu:∀u∈us,UL u)(rb:Rd w 1 b bs.length (bv bs))(hbl:bs.length≤140737488351232) :
 Calls Tryz.prog 5 #[v,b] w fun e w'=>e= .returned (.bool true)∧Kept [] w w':=by
 have fin:∀lu:List Upd,lu.length≤20→(∀u∈lu,UL u)→
  (a4g lu).length≤140737488351232∧
  (∀u x,Rd u 129 x lu.length (lu.flatMap uC)→Calls Tryz.prog 16 #[x] u fun e w'=>∃v',e= .returned v'∧New u w' v' (a4g lu))∧
  (∀u x,Rd u 129 x lu.length (lu.flatMap uC)→Calls Tryz.prog 17 #[x] u fun e w'=>∃v',e= .returned v'∧a2g (a4g lu) v' w'∧Kept [] u w')∧
  (∀u x,Rd u 129 x lu.length (lu.flatMap uC)→Calls Tryz.prog 18 #[x] u fun e w'=>e= .returned (ab (sha (4 :: a4g lu)))∧Kept [] u w')∧
  (∀u x,c9x [4] (a4g lu) x u→Calls Tryz.prog 19 #[x] u fun e w'=>e= .returned (ab (sha (4 :: a4g lu)))∧Kept [] u w'):=by
  intro lu hl hul
  have hbl:(a4g lu).length≤3000:=by
   unfold a4g
   rw [List.length_append,a1p,a8n hul]
   omega
  refine⟨by omega,fun u x h=>a9r x u h hul (by omega),fun u x h=>?_,fun u x h=>c3t x u h hul (by omega),fun u x h=>?_⟩
  ·refine(c2r x u h hul (by omega)).mono ?_
   rintro e w' ⟨v',rfl,ho,_,hk⟩
   exact⟨v',rfl,Rd.a6u ho,hk⟩
  ·obtain⟨p1,p2,hp⟩:=h
   have e:a0u [(p1,[4]),(p2,a4g lu)]=4 :: a4g lu:=by simp [a0u,bytesOf]
   have:=d7o x _ u hp (by simp) (by rw [e];simp;omega)
   rwa [e]at this
 by_cases ht:(20:Int) < us.length
 ·obtain⟨B,d,h1,h2⟩:=c7t rd hu (j:=20) (by omega)
  have hlen:(us.take 20).length=20:=by rw [List.length_take];omega
  have hul:=b0m hu 20
  generalize us.take 20=lu at *
  obtain⟨f0,f1,f2,f3,f4⟩:=fin lu (by omega) hul
  rw [←hlen]at h1
  have h3:(((lu.length:Nat):Int))=20:=by omega
  rw [h3]at h1
  exact c9m b rd rb ht (by omega) h1 (fun u hk=>by have:=h2 u hk;rw [←hlen]at this;simpa using this) (a4q _) f0 hbl f1 f2 f3 f4
 ·obtain⟨B,d,h1,h2⟩:=c7t rd hu (j:=us.length) (Nat.le_refl _)
  rw [List.take_length]at h2
  obtain⟨f0,f1,f2,f3,f4⟩:=fin us (by omega) hu
  exact b9w b rd rb ht (by omega) h1 h2 (a4q _) f0 hbl f1 f2 f3 f4
section
variable {H:Type} {enc:TypeId × Value→H} {P:Program} {w:World} {base:Nat} {spare:Nat→Bool} {held:Bool}
theorem b5h{N:Nat}{e te:TypeId}(he:P.underlying e=some (.array N te))(h3:P.underlying te=some (.int .u8))(c3:P.cellsOf te=1){fuel:Nat}{cs:List Value}{y:DataW H × List MemPlace}(hn:cs.length=N)
 (h:DataW.trod enc P w base spare held fuel e cs=some y):∃bs:List UInt8,cs=bv bs∧bs.length=N:=by
 cases fuel with
 | zero=>simp [DataW.trod]at h
 | succ m=>
   unfold DataW.trod at h
   rw [he]at h
   simp only [hn,c3,Nat.mul_one]at h
   have each:∀i (hi:i < N),∃b:UInt8,cs[i]'(by omega)=a1h b:=by
    intro i hi
    cases hq:DataW.trod enc P w base spare held m te ((cs.drop i).take 1)with
    | none=>
      have:=mapM_none_of (f:=fun i=>DataW.trod enc P w base spare held m te ((cs.drop i).take 1)) (l:=List.range N) (x:=i) (by simpa using hi) hq
      rw [this]at h
      simp at h
    | some y=>
      have e1:(cs.drop i).take 1= [cs[i]'(by omega)]:=by
       have:=List.drop_eq_getElem_cons (l:=cs) (i:=i) (by omega)
       rw [this]
       rfl
      rw [e1]at hq
      exact e3y h3 hq
   refine⟨(List.range N).map fun i=>if hi:i < N then(each i hi).choose else 0,?_,by simp⟩
   apply List.ext_getElem
   ·simp [hn]
   ·intro i h1 h2
    have hi:i < N:=by omega
    simp only [bv,List.map_map,List.getElem_map,List.getElem_range,Function.comp_apply,dif_pos hi]
    exact(each i hi).choose_spec
theorem c5y:∀(l:List Upd) (_:∀u∈l,UL u) (j:Nat) (u:Value),(l.flatMap uC)[j]?=some u→∃(q r:Nat) (h:q < l.length),j=q * 129 + r∧(uC l[q])[r]?=some u
 | [],_,_,_,h=>by simp at h
 | x :: l,hk,j,u,h=>by
   have e:(x :: l).flatMap uC=uC x ++ l.flatMap uC:=by rw [List.flatMap_cons]
   have hl:(uC x).length=129:=b7l (hk x (by simp))
   rw [e]at h
   by_cases hj:j < 129
   ·rw [List.getElem?_append_left (by omega)]at h
    exact⟨0,j,by simp,by omega,h⟩
   ·rw [List.getElem?_append_right (by omega),hl]at h
    obtain⟨q,r,hq,he,hu⟩:=c5y l (fun k hm=>hk k (List.mem_cons_of_mem _ hm)) (j - 129) u h
    exact⟨q + 1,r,by simp;omega,by omega,by simpa using hu⟩
theorem d1i{t e te:TypeId}{F0 F1 F2 F3:Field}(ht:P.underlying t=some (.slice e))(he:P.underlying e=some (.struct #[F0,F1,F2,F3]))(hc:P.cellsOf e=129)(q0:(F0.offset,F1.offset)=(0,32))(q1:F2.offset=33)(q2:F3.offset=65)
 (h0:P.underlying F0.type=some (.array 32 te)) (h1:P.underlying F1.type=some (.int .i64)) (h2:P.underlying F2.type=some (.array 32 te)) (h2':P.underlying F3.type=some (.array 64 te)) (h3:P.underlying te=some (.int .u8))
 (c0:P.cellsOf F0.type=32) (c0':P.cellsOf F1.type=1) (c2:P.cellsOf F2.type=32) (c2':P.cellsOf F3.type=64) (c3:P.cellsOf te=1) {v:Value} {d:DataW H} {p:List MemPlace}
 (h:∃fuel,DataW.trod enc P w base spare held fuel t v.cells.toList=some (d,p)) (hv:∃A n c,v= .slice A n c) :
 ∃us:List Upd,Rd w 129 v us.length (us.flatMap uC)∧(us= []∧d= .nil∨∃el sp,d= .slice el sp∧el.length=us.length)∧us.length≤9223372036854775807∧∀u∈us,UL u:=by
 obtain⟨A,n,c,rfl⟩:=hv
 obtain⟨fuel,hf⟩:=h
 injection q0 with q0 q0'
 rcases DataW.trod_slice ht hf with⟨hcs,hx⟩ | ⟨a,len,cap,elems,rest,m,_,hcs,hx,_,hl,hm,hlen,hel,_,_⟩
 ·simp [Value.cells]at hcs
  obtain⟨rfl,rfl,rfl⟩:=hcs
  exact⟨[],Rd.nil _ _,.inl ⟨rfl,by injection hx⟩,by simp,by simp⟩
 ·simp [Value.cells]at hcs
  obtain⟨rfl,rfl,rfl⟩:=hcs
  have each:∀i,∃k:Upd,UL k∧(i < n→∀(j:Nat) u,(uC k)[j]?=some u→w.cell? ((a.add (i * 129)).add j)=some u):=by
   intro i
   by_cases hi:i < n
   ·have hb:=hel i hi
    have hil:i < elems.length:=by omega
    rw [hc,List.getElem?_eq_getElem hil,Option.bind_eq_some_iff]at hb
    obtain⟨cs,hcs,hy⟩:=hb
    obtain⟨_,hcl,hcc⟩:=World.cells?_some hcs
    obtain⟨xs,m2,_,hxx,_,hxl,hff⟩:=DataW.trod_struct he hy
    match xs,hxl with
    | [y0,y1,y2,y3],_=>
    have g0:=hff 0 F0 rfl
    have g1:=hff 1 F1 rfl
    have g2:=hff 2 F2 rfl
    have g3:=hff 3 F3 rfl
    rw [c0,q0]at g0
    rw [c0',q0']at g1
    rw [c2,q1]at g2
    rw [c2',q2]at g3
    obtain⟨b0,e0,l0⟩:=b5h h0 h3 c3 (by simp [hcl]) g0
    obtain⟨b2,e2,l2⟩:=b5h h2 h3 c3 (by simp [hcl]) g2
    obtain⟨b3,e3,l3⟩:=b5h h2' h3 c3 (by simp [hcl]) g3
    have e1l:(cs.drop 32).take 1= [cs[32]'(by omega)]:=by
     have:=List.drop_eq_getElem_cons (l:=cs) (i:=32) (by omega)
     rw [this]
     rfl
    rw [e1l]at g1
    obtain⟨z1,e1,_,_⟩:=DataW.trod_int h1 g1
    have ecs:cs=uC ⟨b0,z1,b2,b3⟩:=by
     have s1:cs=(cs.drop 0).take 32 ++ ((cs.drop 32).take 1 ++ ((cs.drop 33).take 32 ++ (cs.drop 65).take 64)):=by
      have t1:cs.drop 65=(cs.drop 65).take 64:=(List.take_of_length_le (by simp [hcl])).symm
      have t2:cs.drop 33=(cs.drop 33).take 32 ++ cs.drop 65:=by
       have:=(List.take_append_drop 32 (cs.drop 33)).symm
       rwa [List.drop_drop]at this
      have t3:cs.drop 32=(cs.drop 32).take 1 ++ cs.drop 33:=by
       have:=(List.take_append_drop 1 (cs.drop 32)).symm
       rwa [List.drop_drop]at this
      have t4:cs=(cs.drop 0).take 32 ++ cs.drop 32:=by
       simp
      rw [←t1,←t2,←t3]
      exact t4
     rw [s1,e0,e2,e3,e1l]
     have e1':cs[32]'(by omega)= .int .i64 z1:=by simpa using e1
     rw [e1']
     show _=a2a b0 z1 b2 b3
     unfold a2a
     rfl
    refine⟨⟨b0,z1,b2,b3⟩,⟨l0,l2,l3⟩,fun _ j u hu=>?_⟩
    rw [←ecs]at hu
    have hj:j < cs.length:=(List.getElem?_eq_some_iff.1 hu).1
    have:=hcc j (by omega)
    rw [this]
    exact hu
   ·exact⟨⟨a0e 32,0,a0e 32,a0e 64⟩,⟨rfl,rfl,rfl⟩,fun h=>absurd h hi⟩
  obtain⟨f,hf2⟩:=Classical.axiomOfChoice each
  have hlen2:((List.range n).map f).length=n:=by simp
  have hkl:∀k∈(List.range n).map f,UL k:=by
   intro k hk
   obtain⟨i,_,rfl⟩:=List.mem_map.1 hk
   exact(hf2 i).1
  refine⟨(List.range n).map f,⟨_,_,by rw [hlen2],by rw [b7d hkl],by rw [hlen2];exact hl,fun hn=>?_⟩,.inr ⟨_,_,by injection hx,by simp [hlen]⟩,?_,hkl⟩
  ·rw [hlen2]at hn
   have hb0:(uC (f 0))[0]?=some ((uC (f 0))[0]'(by rw [b7l (hf2 0).1];omega)):=List.getElem?_eq_getElem _
   have k0:=(hf2 0).2 hn 0 _ hb0
   obtain⟨b,o,sp⟩:=a
   have hsp:sp=none:=by
    cases sp with
    | none=>rfl
    | some k=>
      simp only [Addr.add,Nat.zero_mul,if_true]at k0
      unfold World.cell? at k0
      split at k0 <;> simp at k0
   subst hsp
   refine⟨b,o,rfl,fun j u hu=>?_⟩
   obtain⟨q,r,hq,rfl,hu2⟩:=c5y _ hkl _ _ hu
   rw [hlen2]at hq
   simp only [List.getElem_map,List.getElem_range]at hu2
   have:=(hf2 q).2 hq r u hu2
   rw [a2z,a2z]at this
   rwa [←Nat.add_assoc]
  ·rw [hlen2]
   have:c≤9223372036854775807:=by simpa [maxLen]using hm
   omega
end
end Go.Proofs.YtdbngnlpafcogaaGreat
