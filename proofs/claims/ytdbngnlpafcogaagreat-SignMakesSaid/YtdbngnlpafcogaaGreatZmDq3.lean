/-
  The document's digests: the walk (64 bits).
-/
import Derived.Test.YtdbngnlpafcogaaGreatZmDq2
set_option maxRecDepth 100000
namespace Go.Proofs.YtdbngnlpafcogaaGreat.Q
open Go.RowKit Go.Mem Go.Txt
set_option maxHeartbeats 40000000 in
theorem c7m(v:Value)(b:List UInt8)(w:World)(hr:Rd w 1 v b.length (bv b))(hb:b.length≤1000000000000) :
 Calls Tryz.prog 67 #[v,.int .u64 64] w fun e w'=>∃v',e= .returned v'∧New w w' v' (sha b):=by
 have R:=hjd hr
 obtain⟨A,c,rfl,_,hc,_⟩:=hr
 have csq:=hjd c7q
 have hsha:sha b=d8h (a7a (pad b) ((pad b).length / 128)):=rfl
 have ep:=hjd (show pad b=(b ++ 128 :: List.replicate (pz b.length) 0) ++ (List.replicate 8 0 ++ be8 (8 * b.length))from rfl)
 obtain⟨N,hN⟩:∃N,(pad b).length=128 * N:=⟨(pad b).length / 128,by have:=d1a b;omega⟩
 rw [show(pad b).length / 128=N from by omega]at hsha
 rw [hsha]
 clear hsha
 generalize pad b=pm at *
 replace hN:=hjd hN
 obtain⟨Z8,hZ8,mk8⟩:=d5u 16 (by decide)
 obtain⟨Z12,hZ12,mk12⟩:=c6k 8 (by decide)
 replace hZ8:=hjd hZ8
 replace hZ12:=hjd hZ12
 have mk8':∀W:World,(Instr.makeSlice 23 (.int .i64 16) (.int .i64 16)).run Tryz.prog W= .ok (.slice (some ⟨W.heap.size,0,none⟩) 16 16) (W.alloc (.cells Z8 5)):=mk8
 have mk12':∀W:World,(Instr.makeSlice 158 (.int .i64 8) (.int .i64 8)).run Tryz.prog W= .ok (.slice (some ⟨W.heap.size,0,none⟩) 8 8) (W.alloc (.cells Z12 67)):=mk12
 clear mk8 mk12
 go_enter Tryz.func67,Tryz.ntmps67
 go_wp2_with (first
  | ((with_reducible refine a0q 30 ?_);(refine a6y (o:=⟨some 30,_,_,_,_,_⟩) (cells:=(uv nL0).toArray) (vs:=(uv nL0).zipIdx.map fun p=>(p.2,p.1)) rfl e0p rfl (by kernel_rfl) (by decide) (by decide) (by kernel_rfl) ?_);intro gn0 wn0 mn
     have K0:=hjd mn.kept
     replace R:=hjd (R.out.a1o mn.kept)
     clear mn)
  | ((with_reducible refine a0q 33 ?_);(refine a6y (o:=⟨some 33,_,_,_,_,_⟩) (cells:=(uv nL).toArray) (vs:=(uv nL).zipIdx.map fun p=>(p.2,p.1)) rfl e0p rfl (by kernel_rfl) (by decide) (by decide) (by kernel_rfl) ?_);intro gn wn mn
     have BN:=hjd mn.blk
     have LN:=hjd mn.le
     have K:=hjd (K0.out.a0i mn.kept)
     replace R:=hjd (R.out.a1o mn.kept)
     clear mn)
  | (at_builtin
     refine a5a a2x rfl (.tmp 37) (.tmp 38) rfl rfl (xs:=[]) (n:=0) (Ow.b8x (a5x (by simp) rfl rfl (by omega))) rfl (R.out.alloc _) (a5z _) (by omega) (by omega) ?_
     intro v' w' hown hk hb
     rw [Nat.zero_add]at hown
     obtain⟨A1,c1,hv',hlc'⟩:=hown.shape
     subst hv'
     have hk9:Kept (Value.slice (some ⟨wn.heap.size,0,none⟩) 0 0).ownBlock.toList (wn.alloc (.cells #[] 5)) w':=hk
     have hk0:Kept [] wn w':=Kept.fresh ((Kept.refl [] wn).alloc _) hk9 (by simp [Value.ownBlock])
     have hb9:(Value.slice A1 b.length c1).ownBlock=(Value.slice (some ⟨wn.heap.size,0,none⟩) 0 0).ownBlock∨(Value.slice A1 b.length c1).ownBlock=some (wn.alloc (.cells #[] 5)).heap.size:=hb
     have H:=hjd (show New wn w' (.slice A1 b.length c1) b from⟨by simpa using hown,hk0,by
      rcases hb9 with hb | hb
      ·exact .inr ⟨_,hb,Nat.le_refl _⟩
      ·exact .inr ⟨_,hb,by simp⟩⟩)
     clear hown hk hb hk0 hk9 hb9)
  | ((with_reducible refine a0q 41 ?_);(refine a2b (o:=⟨some 41,_,_,_,_,_⟩) (v0:=.int .u8 128) (cells:=(bv [128]).toArray) rfl a2x rfl rfl (by decide) rfl rfl ?_);intro g7 w7 m7
     have b7:=hjd (show Rd w7 1 (.slice (some ⟨g7,0,none⟩) 1 1) 1 (bv [128])from⟨_,_,rfl,rfl,by omega,fun _=>⟨g7,0,rfl,fun j u hu=>by rw [m7.blk.cell];simpa using hu⟩⟩)
     have k7:=hjd m7.kept
     clear m7)
  | (at_builtin
     refine a5a (n:=b.length) (m:=1) a2x rfl (.tmp 40) (.tmp 41) rfl rfl (H.out.ow.a1o k7.out) rfl b7.out (a5z _) (by omega) (by omega) ?_
     intro v' w9 o9 k9 f9
     obtain⟨A2,c2,hv',hlc'⟩:=o9.shape
     subst hv'
     have H2:=hjd (New.e6z (v:=.slice A1 b.length c1) H.out k7.out o9 k9 f9)
     clear o9 k9 f9 k7 b7 H))
 have KN:=hjd (K.out.a0i H2.out.kept)
 have BN2:=hjd (BN.out.kept H2.out.kept (by simp))
 clear R
 go_loopg [8] (pz b.length) (fun fu o wk=>∃(j:Nat) (A:Option Addr) (c:Nat),j≤pz b.length∧fu + j=pz b.length∧o= .slice A (b.length + 1 + j) c∧Hid (New wn wk (.slice A (b.length + 1 + j) c) (b ++ 128 :: List.replicate j 0)))
 case atStart=>exact⟨0,A2,c2,by omega,by omega,rfl,H2⟩
 case round=>
  clear H2
  obtain⟨j,Aj,cj,hj,hfu,rfl,H⟩:=hrel
  have hz:=e3l b.length
  by_cases hlt:j < pz b.length
  ·as_aux_lemma=>--<
   have hne:¬(b.length + 1 + j + 16) % 128=0:=fun e=>by have:=(d8y hj).1 e;omega
   generalize hL:b.length + 1 + j=L at *
   have hne1:(((L:Int) + 16) % 128=0)=False:=eq_false (by omega)
   have hne2:(((L:Int) + 16).tmod 128=0)=False:=eq_false (by rw [Int.tmod_eq_emod_of_nonneg (by omega)];omega)
   have hLs:L≤1000000000200:=by omega
   go_wp2_with (first
    | ((with_reducible refine a0q 53 ?_);(refine a2b (o:=⟨some 53,_,_,_,_,_⟩) (v0:=.int .u8 0) (cells:=(bv [0]).toArray) rfl a2x rfl rfl (by decide) rfl rfl ?_);intro g7 w7 m7
       have b7:=hjd (show Rd w7 1 (.slice (some ⟨g7,0,none⟩) 1 1) 1 (bv [0])from⟨_,_,rfl,rfl,by omega,fun _=>⟨g7,0,rfl,fun j u hu=>by rw [m7.blk.cell];simpa using hu⟩⟩)
       have k7:=hjd m7.kept
       clear m7)
    | (at_builtin
       refine a5a (n:=L) (m:=1) a2x rfl (.tmp 52) (.tmp 53) rfl rfl (by have:=H.out.ow.a1o k7.out;have e:(b ++ 128 :: List.replicate j 0).length=L:=(by simp;omega);rw [e]at this;exact this) rfl b7.out (a5z _) (by omega) (by omega) ?_
       intro v' w9 o9 k9 f9
       have e:(b ++ 128 :: List.replicate j 0).length=L:=by simp;omega
       obtain⟨A3,c3,hv',hlc'⟩:=o9.shape
       subst hv'
       replace H:=hjd (H.out.e6z k7.out (by rw [e];exact o9) k9 f9)
       clear o9 k9 f9 k7 b7 e))
   go_roundg (pz b.length - (j + 1))
   case measure=>omega
   case rel=>
    have e:b ++ 128 :: List.replicate (j + 1) 0=(b ++ 128 :: List.replicate j 0) ++ [0]:=by simp [List.replicate_succ']
    refine⟨j + 1,A3,c3,by omega,by omega,by rw [←hL];rfl,?_⟩
    rw [e,show b.length + 1 + (j + 1)=L + 1 from by omega]
    exact H
  ·obtain rfl:j=pz b.length:=by omega
   have heq:=(d8y hj).2 rfl
   generalize hL:b.length + 1 + pz b.length=L at *
   have heq1:(((L:Int) + 16) % 128=0):=by omega
   have heq2:(((L:Int) + 16).tmod 128=0):=by rw [Int.tmod_eq_emod_of_nonneg (by omega)];omega
   have hLs:L≤1000000000200:=by omega
   have e:(b ++ 128 :: List.replicate (pz b.length) 0).length=L:=by simp;omega
   have ep2:=hjd (show pm=(b ++ 128 :: List.replicate (pz b.length) 0) ++ (List.replicate 8 0 ++ be8 (8 * b.length))from ep.out)
   have hpl:=hjd (show pm.length=L + 16 from by rw [ep2.out,List.length_append,e,List.length_append,List.length_replicate,a8a])
   clear ep
   generalize b ++ 128 :: List.replicate (pz b.length) 0=M0 at *
   have q8:IntKind.u64.wrap (8 * (b.length:Int))=((8 * b.length:Nat):Int):=by rw [IntKind.wrap_u64];omega
   have q8':IntKind.u64.wrap ((b.length:Int) * 8)=((8 * b.length:Nat):Int):=by rw [IntKind.wrap_u64];omega
   have hqs:8 * b.length < 18446744073709551616:=by omega
   generalize 8 * b.length=q at *
   subst e
   go_wp2_with fail
   have b9:=hjd (show Blk (wr.alloc (.cells Z8 5)) wr.heap.size 5 ((fam 16 (lbF q 0)).map a1q).toArray from by
    have e:fam 16 (lbF q 0)=fam 16 (fun _=>(0:UInt8)):=a3z 16 fun i hi=>by unfold lbF;rw [if_neg (by omega)]
    rw [e,←hZ8.out];exact Blk.new _ _ _)
   have H9:=hjd (H.out.a0i ((Kept.refl [] wr).alloc (.cells Z8 5)))
   have n9:=hjd (show(Value.slice Aj M0.length cj).ownBlock≠some wr.heap.size from fun h=>by have:=H.out.ow.lt h;omega)
   have l9:=hjd (show wn.heap.size≤wr.heap.size from H.out.kept.size)
   clear H
   generalize wr.alloc (.cells Z8 5)=u9 at *
   generalize wr.heap.size=g9 at *
   clear mk8'
   go_loopg [10,11] 16 (fun fu o i wk=>∃j:Nat,j≤16∧fu + j=16∧i= .int .i64 (15 - (j:Int))∧o= .int .u64 ((q / 256 ^ j:Nat):Int)∧Hid (Blk wk g9 5 ((fam 16 (lbF q j)).map a1q).toArray)∧Hid (New wn wk (.slice Aj M0.length cj) M0))
   case atStart=>exact⟨0,by omega,by omega,rfl,by rw [Nat.pow_zero,Nat.div_one],b9,H9⟩
   case round=>
    clear b9 H9
    obtain⟨j,hj8,hfu8,rfl,rfl,b9,H9⟩:=hrel
    by_cases hlt8:j < 16
    ·as_aux_lemma=>--<
     have e7:(15:Int) - (j:Int)=((15 - j:Nat):Int):=by omega
     have hset:=hjd (e3q q j hlt8)
     have hnx:=hjd (show q / 256 ^ (j + 1)=q / 256 ^ j / 256 from by rw [Nat.pow_succ,Nat.div_div_eq_div_mul])
     have hql:q / 256 ^ j < 18446744073709551616:=Nat.lt_of_le_of_lt (Nat.div_le_self _ _) hqs
     generalize q / 256 ^ j=qj at *
     have hby:=hjd (b4l qj)
     have ht1:(qj:Int).tmod 256=(qj:Int) % 256:=Int.tmod_eq_emod_of_nonneg (by omega)
     obtain⟨q2,hq2⟩:∃x,x=qj / 256:=⟨_,rfl⟩
     have ht2:(qj:Int).tdiv 256=(q2:Int):=by rw [Int.tdiv_eq_ediv_of_nonneg (by omega)];omega
     have ht3:(qj:Int) / 256=(q2:Int):=by omega
     replace hq2:=hjd hq2
     have hi8:15 - j < 16:=by omega
     have q9:=b9.out.a7r (15 - j) hi8
     have f9:=b9.out.frozen (15 - j)
     obtain⟨y9,hy9⟩:∃y,wr.cell? ⟨g9,15 - j,none⟩=some y:=⟨_,q9⟩
     clear q9
     generalize hi0:15 - j=i0 at *
     replace hi0:=hjd hi0
     go_wp2_with fail
     go_roundg (16 - (j + 1))
     case measure=>omega
     case rel=>
      refine⟨j + 1,by omega,by omega,by go_num,by rw [hnx.out,hq2.out],?_,?_⟩
      ·rw [←hset.out,←hi0.out]
       have:=b9.out.d4c i0 (UInt8.ofNat qj)
       rw [←hby.out,←hi0.out]at this
       exact hjd this
      ·exact hjd (New.c0q H9.out n9.out l9.out _)
    ·obtain rfl:j=16:=by omega
     have b9':=b9.out
     rw [e2f q hqs]at b9'
     have r9:=hjd (b9'.rd (n:=16) (c:=16) (by simp [a8a]) (Nat.le_refl _))
     have hM0:M0.length≤1000000000200:=by omega
     clear b9' b9
     go_wp2_with (first
      | (at_builtin
         refine a5a (n:=M0.length) (m:=16) a2x rfl (.tmp 77) (.tmp 78) rfl rfl H9.out.ow rfl r9.out (a5z _) (by omega) (by omega) ?_
         intro v' w10 o10 k10 f10
         obtain⟨A3,c3,hv',hlc'⟩:=o10.shape
         subst hv'
         have H10:=hjd (show New wn w10 (.slice A3 (M0.length + 16) c3) pm from by
          have hl:(M0 ++ (List.replicate 8 0 ++ be8 q)).length=M0.length + 16:=by rw [List.length_append,List.length_append,List.length_replicate,a8a]
          have:=H9.out.step (S:=(Value.slice Aj M0.length cj).ownBlock.toList) (ys:=M0 ++ (List.replicate 8 0 ++ be8 q)) (by rw [hl];simpa [bv]using o10) k10 H9.out.old (by
           rcases f10 with e | e
           ·exact .inl e
           ·exact .inr ⟨_,e,H9.out.kept.size⟩)
          rw [ep2.out];exact this)
         clear o10 k10 f10 r9 H9))
     have g12s:=hjd (show Blk (w10.alloc (.cells Z12 67)) w10.heap.size 67 ((fam 8 (mix (fun _=>0) (fun i=>(n64 (a3v.getD i 0)).toNat) 0)).map N64).toArray from by
      rw [a4d,←hZ12.out];exact Blk.new _ _ _)
     have H11:=hjd (H10.out.a0i ((Kept.refl [] w10).alloc (.cells Z12 67)))
     have l12:=hjd (show wn.heap.size≤w10.heap.size from H10.out.kept.size)
     clear H10 mk12'
     generalize w10.alloc (.cells Z12 67)=u12 at *
     generalize w10.heap.size=g12 at *
     go_loopg [83] 8 (fun fu i wk=>∃k:Nat,k≤8∧fu + k=8∧i= .int .i64 (k:Int)∧Hid (Blk wk g12 67 ((fam 8 (mix (fun _=>0) (fun i=>(n64 (a3v.getD i 0)).toNat) k)).map N64).toArray)∧Hid (New wn wk (.slice A3 (M0.length + 16) c3) pm))
     case atStart=>exact⟨0,by omega,by omega,rfl,g12s,H11⟩
     case round=>
      clear g12s H11
      obtain⟨k,hk3,hfu3,rfl,g12s,H11⟩:=hrel
      by_cases hlt3:k < 8
      ·as_aux_lemma=>--<
       have cq:=hjd (csq.out k hlt3)
       have hv:=d0w _ (d4g k hlt3)
       have hst:=hjd (g12s.out.a8m)
       have q12:=g12s.out.a7r k hlt3
       have f12:=g12s.out.frozen k
       obtain⟨y12,hy12⟩:∃y,wr.cell? ⟨g12,k,none⟩=some y:=⟨_,q12⟩
       clear q12
       generalize hrk:a3v.getD k 0=rk at *
       replace hrk:=hjd hrk
       go_wp2_with (first
        | (go_at_call 133;(with_reducible refine(cq.out _).mono ?_);rintro e w13 ⟨rfl,k13⟩
           have G13:=hjd (g12s.out.kept k13 (by simp))
           have H13:=hjd (H11.out.a0i k13)
           have f13:=G13.out.frozen k
           have hy13:=k13.cell hy12 (by simp)
           clear k13))
       go_roundg (8 - (k + 1))
       case measure=>omega
       case rel=>
        refine⟨k + 1,by omega,by omega,by go_num,hjd ?_,hjd (New.c0q H13.out (H13.out.ow.b8w G13.out (by decide)) l12.out _)⟩
        have hb:Blk (w13.setCell ⟨g12,k,none⟩ (N64 ((n64 (a3v.getD k 0)).toNat))) g12 67 _:=G13.out.a8m
        rw [hrk.out]at hb
        exact hb
      ·obtain rfl:k=8:=by omega
       rw [show((8:Nat):Int)=8 from rfl]
       have hrow:=hjd (show Blk wr g12 67 ((fam 8 (fun i=>(a7a pm 0 i).toNat)).map N64).toArray from by
        have:=g12s.out
        rwa [a3j]at this)
       clear g12s csq
       obtain⟨bm,om,cm,heq,_,hcm⟩:=(Rd.b1o H11.out.ow).at_ (by rw [hpl.out];omega)
       have hA3:∃A,A3=some A:=⟨⟨bm,om,none⟩,by injection heq⟩
       have hA3':A3=some ⟨bm,om,none⟩:=by injection heq
       subst hA3'
       clear heq hcm hA3
       have cellm:=hjd (fun(u:World) (h:New wn u (.slice (some ⟨bm,om,none⟩) (M0.length + 16) c3) pm) (j:Nat) (hj:j < pm.length)=>(show u.cell? ⟨bm,om + j,none⟩=some (.int .u8 ((pm.getD j 0).toNat:Int))from by
        obtain⟨b',o',c',heq,_,hc⟩:=(Rd.b1o h.ow).at_ (by omega)
        injection heq with h1
        injection h1 with h1
        injection h1 with h1 h2
        subst h1
        subst h2
        exact hc j _ (by simp [a1q,hj,List.getD_eq_getElem?_getD])))
       have hLN:=hjd (show M0.length + 16=128 * N from by rw [←hpl.out,hN.out])
       obtain⟨Z15,hZ15,mk15⟩:=c6k 80 (by decide)
       replace hZ15:=hjd hZ15
       have mk15':∀W:World,(Instr.makeSlice 158 (.int .i64 80) (.int .i64 80)).run Tryz.prog W= .ok (.slice (some ⟨W.heap.size,0,none⟩) 80 80) (W.alloc (.cells Z15 67)):=mk15
       clear mk15
       go_wp2_with fail
       go_loopg [14] N (fun fu o wk=>∃n:Nat,n≤N∧fu + n=N∧o= .int .i64 ((128 * n:Nat):Int)∧Hid (Blk wk g12 67 ((fam 8 (fun i=>(a7a pm n i).toNat)).map N64).toArray)∧Hid (New wn wk (.slice (some ⟨bm,om,none⟩) (M0.length + 16) c3) pm))
       case atStart=>exact⟨0,by omega,by omega,rfl,hrow,H11⟩
       case round=>
        clear hrow H11
        obtain⟨n,hn4,hfu4,rfl,hrow,H11⟩:=hrel
        have hM8:M0.length + 16=128 * N:=hLN.out
        by_cases hlt4:n < N
        ·have hat:128 * n < M0.length + 16:=by omega
         have hats:128 * n≤2000000000000:=by omega
         replace hM8:=hjd hM8
         obtain⟨an,han⟩:∃x,x=128 * n:=⟨_,rfl⟩
         rw [←han]at hat hats ⊢
         replace han:=hjd han
         have hatT:(an < M0.length + 16)=True:=eq_true hat
         have hatI:((an:Int) < (M0.length:Int) + 16)=True:=eq_true (by omega)
         go_wp2_with fail
         have xrow:=hjd (show Blk (wr.alloc (.cells Z15 67)) wr.heap.size 67 ((fam 80 (rdX (fun j=>pm.getD (an + j) 0) 0 0)).map N64).toArray from by
          have e:fam 80 (rdX (fun j=>pm.getD (an + j) 0) 0 0)=fam 80 (fun _=>0):=a3z 80 fun i hi=>by unfold rdX;rw [if_neg (by omega)];split <;> rfl
          rw [e,←hZ15.out];exact Blk.new _ _ _)
         have hrow2:=hjd (hrow.out.kept ((Kept.refl [] wr).alloc (.cells Z15 67)) (by simp))
         have H12:=hjd (H11.out.a0i ((Kept.refl [] wr).alloc (.cells Z15 67)))
         have l15:=hjd (show wn.heap.size≤wr.heap.size from H11.out.kept.size)
         have n15:=hjd (show g12≠wr.heap.size from fun e=>by have:=hrow.out.lt;omega)
         clear hrow H11
         generalize wr.alloc (.cells Z15 67)=u15 at *
         generalize wr.heap.size=g15 at *
         generalize hp:(fun j=>pm.getD (an + j) 0)=p at *
         have hpj:=hjd (show∀j,pm.getD (an + j) 0=p j from fun j=>by rw [←hp])
         replace hp:=hjd hp
         go_loopg [16] 16 (fun fu o wk=>∃t:Nat,t≤16∧fu + t=16∧o= .int .i64 (t:Int)∧Hid (Blk wk g15 67 ((fam 80 (rdX p t 0)).map N64).toArray)∧Hid (Blk wk g12 67 ((fam 8 (fun i=>(a7a pm n i).toNat)).map N64).toArray)∧Hid (New wn wk (.slice (some ⟨bm,om,none⟩) (M0.length + 16) c3) pm))
         case atStart=>exact⟨0,by omega,by omega,rfl,xrow,hrow2,H12⟩
         case round=>
          clear xrow hrow2 H12
          obtain⟨t,ht5,hfu5,rfl,xrow,hrow2,H12⟩:=hrel
          by_cases hlt5:t < 16
          ·as_aux_lemma=>--<
           have hlt5T:((t:Int) < 16)=True:=eq_true (by omega)
           go_wp2_with fail
           go_loopg [17] 8 (fun fu o wk=>∃k:Nat,k≤8∧fu + k=8∧o= .int .i64 (k:Int)∧Hid (Blk wk g15 67 ((fam 80 (rdX p t k)).map N64).toArray)∧Hid (Blk wk g12 67 ((fam 8 (fun i=>(a7a pm n i).toNat)).map N64).toArray)∧Hid (New wn wk (.slice (some ⟨bm,om,none⟩) (M0.length + 16) c3) pm))
           case atStart=>exact⟨0,by omega,by omega,rfl,xrow,hrow2,H12⟩
           case round=>
            clear xrow hrow2 H12
            obtain⟨k,hk6,hfu6,rfl,xrow,hrow2,H12⟩:=hrel
            by_cases hlt6:k < 8
            ·have hi0:an + 8 * t + k < pm.length:=by rw [hpl.out];have:=han.out;have:=hM8.out;omega
             have cm1:=cellm.out _ H12.out _ hi0
             have epj:=hpj.out (8 * t + k)
             rw [←Nat.add_assoc]at epj
             rw [epj]at cm1
             have eidx:(an:Int) + (t:Int) * 8 + (k:Int)=((an + 8 * t + k:Nat):Int):=by omega
             have hil:an + 8 * t + k < M0.length + 16:=by rw [←hpl.out];exact hi0
             have hx:=rdX_at p t k
             have hxv:=xrow.out.a7r t (show t < 80 by omega)
             rw [hx]at hxv
             have fx:=xrow.out.frozen t
             have hwl:=e4u p t k
             have hw3:wp p t k≤72057594037927935:=by
              have:256 ^ k≤256 ^ 7:=Nat.pow_le_pow_right (by decide) (by omega)
              omega
             obtain⟨w1,hw1⟩:∃x,x=wp p t (k + 1):=⟨_,rfl⟩
             have hw2:(wp p t k:Int) * 256 + ((p (8 * t + k)).toNat:Int)=(w1:Int):=by rw [hw1];simp only [wp];omega
             have hset:=hjd (e2c p t k)
             have hb8:=UInt8.toNat_lt (p (8 * t + k))
             generalize wp p t k=w0' at *
             generalize (p (8 * t + k)).toNat=bt at *
             replace hw1:=hjd hw1
             replace hx:=hjd hx
             clear hi0 epj hwl
             generalize an + 8 * t + k=i0 at *
             go_wp2_with fail
             refine Txt.b0y [] (fun _=>True) [_,_,_,_,_,_,_,_,_,_,_,_,_,_,_,_,_,_,_,_] _ rfl [[_,_,_,_,_,_,_,_,_,_,_,_,_,_,_,_,_,_,_,_]] (by kernel_rfl) (by kernel_rfl) (by kernel_rfl) rfl trivial (Txt.a0h ?_)
             go_wp2_with fail
             refine⟨rfl,trivial,Txt.a1l ⟨⟨by kernel_rfl,fun j hj=>absurd hj (by simp)⟩,?_⟩⟩
             go_wp2_with fail
             go_roundg (8 - (k + 1))
             case measure=>omega
             case rel=>
              refine⟨k + 1,by omega,by omega,by go_num,hjd ?_,hjd ?_,hjd ?_⟩
              ·have:=(xrow.out.d4c t w1).drew
               rw [show(fun j=>if j=t then w1 else rdX p t k j)=rdX p t (k + 1)from by rw [hw1.out];exact hset.out]at this
               exact this
              ·exact(hrow2.out.far n15.out _).drew
              ·exact(New.c0q H12.out (H12.out.ow.b8w xrow.out (by decide)) l15.out _).a0i (Kept.refl [] _).drew
            ·obtain rfl:k=8:=by omega
             rw [d4w]at xrow
             go_wp2_with fail
             go_roundg (16 - (t + 1))
             case measure=>omega
             case rel=>exact⟨t + 1,by omega,by omega,by go_num,xrow,hrow2,H12⟩
          ·obtain rfl:t=16:=by omega
           rw [e4d]at xrow
           have BN3:=hjd (BN2.out.kept ((Kept.refl [] _).a0i (Kept.refl [] _)) (by simp))
           go_wp2_with fail
           go_loopg [18] 64 (fun fu o wk=>∃t:Nat,16≤t∧t≤80∧fu + t=80∧o= .int .i64 (t:Int)∧Hid (Blk wk g15 67 ((fam 80 (mix (fun _=>0) (fun i=>(sch p i).toNat) t)).map N64).toArray)∧Hid (Blk wk g12 67 ((fam 8 (fun i=>(a7a pm n i).toNat)).map N64).toArray)∧Hid (New wn wk (.slice (some ⟨bm,om,none⟩) (M0.length + 16) c3) pm))
           case atStart=>exact⟨16,by omega,by omega,by omega,rfl,xrow,hrow2,H12⟩
           case round=>
            clear xrow hrow2 H12 BN3
            obtain⟨t,ht16,ht7,hfu7,rfl,xrow,hrow2,H12⟩:=hrel
            by_cases hlt7:t < 80
            ·as_aux_lemma=>--<
             have e15:(t:Int) - 15=((t - 15:Nat):Int):=by omega
             have e2:(t:Int) - 2=((t - 2:Nat):Int):=by omega
             have e7:(t:Int) - 7=((t - 7:Nat):Int):=by omega
             have e16:(t:Int) - 16=((t - 16:Nat):Int):=by omega
             have hs:=d2o p (t:=t) (by omega)
             have l15':t - 15 < t∧t - 15 < 80:=by omega
             have l2':t - 2 < t∧t - 2 < 80:=by omega
             have l7':t - 7 < t∧t - 7 < 80:=by omega
             have l16':t - 16 < t∧t - 16 < 80:=by omega
             generalize t - 15=a15 at *
             generalize t - 2=a2 at *
             generalize t - 7=a7 at *
             generalize t - 16=a16 at *
             have cellx:=hjd (fun(u:World) (h:Blk u g15 67 ((fam 80 (mix (fun _=>0) (fun i=>(sch p i).toNat) t)).map N64).toArray) (j:Nat) (hj:j < t)=>(show u.cell? ⟨g15,j,none⟩=some (W64 (sch p j))from by rw [h.a7r j (by omega),b6v _ _ hj]))
             have gnlt:gn < wn.heap.size:=BN.out.lt
             have celln:=hjd (fun(u:World) (h:New wn u (.slice (some ⟨bm,om,none⟩) (M0.length + 16) c3) pm)=>(show Blk u gn 25 (uv nL).toArray from BN.out.kept h.kept (by simp)))
             have c2:=cellx.out _ xrow.out _ l2'.1
             have k15:=l15'.2
             have k2:=l2'.2
             have k7:=l7'.2
             have k16:=l16'.2
             have n9':wr.cell? ⟨gn,9,none⟩=some (.int .u64 19):=by rw [(celln.out _ H12.out).cell];rfl
             have n10:wr.cell? ⟨gn,10,none⟩=some (.int .u64 61):=by rw [(celln.out _ H12.out).cell];rfl
             have n11:wr.cell? ⟨gn,11,none⟩=some (.int .u64 6):=by rw [(celln.out _ H12.out).cell];rfl
             replace l15':=hjd l15'
             replace l2':=hjd l2'
             replace l7':=hjd l7'
             replace l16':=hjd l16'
             replace hs:=hjd hs
             have ct1:=hjd (fun u=>(show Calls Tryz.prog 135 #[W64 (sch p a2),.int .u64 64,.int .u64 19,.int .u64 61,.int .u64 6,.bool true] u _ from b4w (sch p a2) 19 61 6 (by decide) (by decide) (by decide) (by decide) (by decide) (by decide) u))
             have ct2:=hjd (fun u=>(show Calls Tryz.prog 135 #[W64 (sch p a15),.int .u64 64,.int .u64 1,.int .u64 8,.int .u64 7,.bool true] u _ from b4w (sch p a15) 1 8 7 (by decide) (by decide) (by decide) (by decide) (by decide) (by decide) u))
             have hsum:=hjd (show ls1 (sch p a2) + sch p a7 + ls0 (sch p a15) + sch p a16=sch p t from hs.out.symm)
             have cl7:=hjd (fun(u:World) (h:Blk u g15 67 ((fam 80 (mix (fun _=>0) (fun i=>(sch p i).toNat) t)).map N64).toArray)=>(show u.cell? ⟨g15,a7,none⟩=some (N64 (sch p a7).toNat)from cellx.out u h _ l7'.out.1))
             have cl16:=hjd (fun(u:World) (h:Blk u g15 67 ((fam 80 (mix (fun _=>0) (fun i=>(sch p i).toNat) t)).map N64).toArray)=>(show u.cell? ⟨g15,a16,none⟩=some (N64 (sch p a16).toNat)from cellx.out u h _ l16'.out.1))
             have ct1':=hjd (fun u=>(show Calls Tryz.prog 135 #[W64 (sch p a2),.int .u64 64,.int .u64 19,.int .u64 61,.int .u64 6,.bool true] u fun e w'=>e= .returned (N64 (ls1 (sch p a2)).toNat)∧Kept [] u w' from ct1.out u))
             have ct2':=hjd (fun u=>(show Calls Tryz.prog 135 #[W64 (sch p a15),.int .u64 64,.int .u64 1,.int .u64 8,.int .u64 7,.bool true] u fun e w'=>e= .returned (N64 (ls0 (sch p a15)).toNat)∧Kept [] u w' from ct2.out u))
             clear ct1 ct2 hs
             generalize ls1 (sch p a2)=v1 at *
             generalize ls0 (sch p a15)=v3 at *
             generalize sch p a7=v2 at *
             generalize sch p a16=v4 at *
             obtain⟨s4,hs4⟩:∃x,x=v1 + v2 + v3 + v4:=⟨_,rfl⟩
             have hv:=hjd (show IntKind.u64.wrap (IntKind.u64.wrap (IntKind.u64.wrap ((v1.toNat:Int) + (v2.toNat:Int)) + (v3.toNat:Int)) + (v4.toNat:Int))=(s4.toNat:Nat)from by rw [b4z,b4z,b4z,hs4])
             rw [←hs4]at hsum
             replace hs4:=hjd hs4
             have ccut:=hjd (b4m s4)
             go_wp2_with fail
             replace xrow:=hjd xrow.out.drew
             replace hrow2:=hjd hrow2.out.drew
             replace H12:=hjd (H12.out.a0i (Kept.refl [] _).drew)
             refine Txt.b0y [6,10,13,16,22,28,32,35,38,45] (fun u=>Blk u g15 67 ((fam 80 (mix (fun _=>0) (fun i=>(sch p i).toNat) t)).map N64).toArray∧Blk u gn 25 (uv nL).toArray) [_,_,_,_,_,_,_,_,_,_,_,_,_,_,_,_,_,_,_,_,_,_,_,_,_,_,_,_,_,_,_,_,_,_,_,_,_,_,_,_,_,_,_,_,_,_,_,_,_,_] _ rfl [[_,_,_,_,_,_,_,_,_,_,_,_,_,_,_,_,_,_],[_,_,_,_,_,_,_,_,_,_,_,_,_,_,_,_,_,_,_,_,_,_],[_,_,_,_,_,_,_,_,_],[_]] (by kernel_rfl) (by kernel_rfl) (by kernel_rfl) rfl ⟨xrow.out,celln.out _ H12.out⟩ (Txt.a0h ?_)
             go_wp2_with (first
              | (go_at_call 135;(with_reducible refine(ct1'.out _).mono ?_);rintro e w20 ⟨rfl,k20⟩
                 replace xrow:=hjd (xrow.out.kept k20 (by simp))
                 replace hrow2:=hjd (hrow2.out.kept k20 (by simp))
                 replace H12:=hjd (H12.out.a0i k20)
                 clear k20 c2 n9' n10 n11))
             refine⟨rfl,⟨xrow.out,celln.out _ H12.out⟩,Txt.a0h ?_⟩
             have c7':=cl7.out _ xrow.out
             have c15':=cellx.out _ xrow.out _ l15'.out.1
             have n6:w20.cell? ⟨gn,6,none⟩=some (.int .u64 1):=by rw [(celln.out _ H12.out).cell];rfl
             have n7:w20.cell? ⟨gn,7,none⟩=some (.int .u64 8):=by rw [(celln.out _ H12.out).cell];rfl
             have n8:w20.cell? ⟨gn,8,none⟩=some (.int .u64 7):=by rw [(celln.out _ H12.out).cell];rfl
             go_wp2_with (first
              | (go_at_call 135;(with_reducible refine(ct2'.out _).mono ?_);rintro e w21 ⟨rfl,k21⟩
                 replace xrow:=hjd (xrow.out.kept k21 (by simp))
                 replace hrow2:=hjd (hrow2.out.kept k21 (by simp))
                 replace H12:=hjd (H12.out.a0i k21)
                 clear k21 c7' c15' n6 n7 n8))
             refine⟨rfl,⟨xrow.out,celln.out _ H12.out⟩,Txt.a0h ?_⟩
             have c16':=cl16.out _ xrow.out
             have hvx:=hv.out
             go_wp2_with (first
              | (go_at_call 134;(with_reducible refine(ccut.out _).mono ?_);rintro e w22 ⟨rfl,k22⟩
                 replace xrow:=hjd (xrow.out.kept k22 (by simp))
                 replace hrow2:=hjd (hrow2.out.kept k22 (by simp))
                 replace H12:=hjd (H12.out.a0i k22)
                 clear k22 c16' hvx))
             refine⟨rfl,⟨xrow.out,celln.out _ H12.out⟩,Txt.a0h ?_⟩
             go_wp2_with fail
             refine⟨rfl,⟨xrow.out,celln.out _ H12.out⟩,Txt.a1l ⟨⟨by kernel_rfl,?_⟩,?_⟩⟩
             ·intro j hj o ho hw
              have hj2:j=6∨j=10∨j=13∨j=16∨j=22∨j=28∨j=32∨j=35∨j=38∨j=45:=by simpa using hj
              rcases hj2 with rfl | rfl | rfl | rfl | rfl | rfl | rfl | rfl | rfl | rfl <;> cases ho
              ·exact⟨_,rfl,fun u hu=>a1e (.tmp 144) rfl a7m rfl (cellx.out u hu.1 _ l2'.out.1)⟩
              ·exact⟨_,rfl,fun u hu=>a1e (.tmp 148) rfl b2t rfl (by rw [hu.2.cell];rfl)⟩
              ·exact⟨_,rfl,fun u hu=>a1e (.tmp 151) rfl b2t rfl (by rw [hu.2.cell];rfl)⟩
              ·exact⟨_,rfl,fun u hu=>a1e (.tmp 154) rfl b2t rfl (by rw [hu.2.cell];rfl)⟩
              ·exact⟨_,rfl,fun u hu=>a1e (.tmp 160) rfl a7m rfl (cl7.out u hu.1)⟩
              ·exact⟨_,rfl,fun u hu=>a1e (.tmp 166) rfl a7m rfl (cellx.out u hu.1 _ l15'.out.1)⟩
              ·exact⟨_,rfl,fun u hu=>a1e (.tmp 170) rfl b2t rfl (by rw [hu.2.cell];rfl)⟩
              ·exact⟨_,rfl,fun u hu=>a1e (.tmp 173) rfl b2t rfl (by rw [hu.2.cell];rfl)⟩
              ·exact⟨_,rfl,fun u hu=>a1e (.tmp 176) rfl b2t rfl (by rw [hu.2.cell];rfl)⟩
              ·exact⟨_,rfl,fun u hu=>a1e (.tmp 183) rfl a7m rfl (cl16.out u hu.1)⟩
             obtain⟨yx,hyx⟩:∃y,w22.cell? ⟨g15,t,none⟩=some y:=⟨_,xrow.out.a7r t hlt7⟩
             have fx:=xrow.out.frozen t
             rw [hsum.out]
             go_wp2_with fail
             go_roundg (80 - (t + 1))
             case measure=>omega
             case rel=>exact⟨t + 1,by omega,by omega,by omega,by go_num,hjd xrow.out.a8m,hjd (hrow2.out.far n15.out _),hjd (New.c0q H12.out (H12.out.ow.b8w xrow.out (by decide)) l15.out _)⟩
            ·obtain rfl:t=80:=by omega
             rw [a3j]at xrow
             have hrd:=hjd (hrow2.out.rd (n:=8) (c:=8) (by simp [fam]) (Nat.le_refl _))
             have hsz:=hjd (And.intro hrow2.out.lt xrow.out.lt)
             go_wp2_with (first
              | (at_builtin
                 refine a5a b9v rfl (.tmp 189) (.tmp 190) rfl rfl (xs:=[]) (n:=0) (Ow.b8x (a5x (by simp) rfl rfl (by omega))) rfl (hrd.out.alloc _) (d1s _) (by omega) (by omega) ?_
                 intro v' w30 o30 k30 f30
                 rw [Nat.zero_add]at o30
                 have k31:Kept (Value.slice (some ⟨wr.heap.size,0,none⟩) 0 0).ownBlock.toList (wr.alloc (.cells #[] 67)) w30:=k30
                 have k32:Kept [] wr w30:=Kept.fresh ((Kept.refl [] wr).alloc _) k31 (by simp [Value.ownBlock])
                 have f31:v'.ownBlock=(Value.slice (some ⟨wr.heap.size,0,none⟩) 0 0).ownBlock∨v'.ownBlock=some (wr.alloc (.cells #[] 67)).heap.size:=f30
                 obtain⟨gv,ov,cv,hv',hcv,hcell⟩:=(Rd.b1o o30).at_ (by decide)
                 subst hv'
                 have hgv:=hjd (show wr.heap.size≤gv from by
                  rcases f31 with e | e
                  ·have:gv=wr.heap.size:=by simpa [Value.ownBlock]using e
                   omega
                  ·have:gv=(wr.alloc (.cells #[] 67)).heap.size:=by simpa [Value.ownBlock]using e
                   rw [this];simp)
                 have vrow:=hjd (show VR w30 gv ov (a5t p (a7a pm n) 0)from fun j hj=>hcell j _ (by simp [fam,a5t,hj]))
                 replace xrow:=hjd (xrow.out.kept k32 (by simp))
                 replace hrow2:=hjd (hrow2.out.kept k32 (by simp))
                 replace H12:=hjd (H12.out.a0i k32)
                 clear o30 k30 f30 k31 k32 f31 hcell hrd))
             have ngv:=hjd (show gv≠g12 from fun e=>by have:=hgv.out;have:=hsz.out.1;omega)
             go_loopg [19,20] 80 (fun fu o i wk=>∃(t g o2 c:Nat),t≤80∧fu + t=80∧i= .int .i64 (t:Int)∧o= .slice (some ⟨g,o2,none⟩) 8 c∧Hid (VR wk g o2 (a5t p (a7a pm n) t))∧Hid (g≠g12)∧Hid (Blk wk g15 67 ((fam 80 (fun i=>(sch p i).toNat)).map N64).toArray)∧Hid (Blk wk g12 67 ((fam 8 (fun i=>(a7a pm n i).toNat)).map N64).toArray)∧Hid (New wn wk (.slice (some ⟨bm,om,none⟩) (M0.length + 16) c3) pm))
             case atStart=>exact⟨0,gv,ov,cv,by omega,by omega,rfl,rfl,vrow,ngv,xrow,hrow2,H12⟩
             case round=>
              clear vrow ngv xrow hrow2 H12
              obtain⟨t,g,o2,cv,ht8,hfu8,rfl,rfl,vrow,ngv,xrow,hrow2,H12⟩:=hrel
              by_cases hlt8:t < 80
              ·as_aux_lemma=>--<
               go_wp2_with fail
               have hkl:=c6m t
               have hrt:=hjd (show a5t p (a7a pm n) (t + 1)=rnd (n64 (a2o.getD t 0)) (sch p t) (a5t p (a7a pm n) t)from rfl)
               have hxt:=hjd (fun(u:World) (h:Blk u g15 67 ((fam 80 (fun i=>(sch p i).toNat)).map N64).toArray)=>(show u.cell? ⟨g15,t,none⟩=some (N64 (sch p t).toNat)from h.a7r t hlt8))
               have hcb:=hjd (fun u=>(show Calls Tryz.prog 136 #[.int .i64 (t:Int)] u fun e w'=>e= .returned (W64 (n64 (a2o.getD t 0)))∧Kept [] u w' from by
                have:=d8p t (by omega) u
                rw [d0w _ hkl]at this
                exact this))
               clear hkl
               generalize a5t p (a7a pm n) t=v at *
               generalize n64 (a2o.getD t 0)=kn at *
               generalize hxn:sch p t=xn at *
               replace hxn:=hjd hxn
               have hrows:=d5b kn xn v
               have gnlt:gn < wn.heap.size:=BN.out.lt
               have celln:=hjd (fun(u:World) (h:New wn u (.slice (some ⟨bm,om,none⟩) (M0.length + 16) c3) pm)=>(show Blk u gn 25 (uv nL).toArray from BN.out.kept h.kept (by simp)))
               have ct1:=hjd (fun u=>(show Calls Tryz.prog 135 #[W64 (v 4),.int .u64 64,.int .u64 14,.int .u64 18,.int .u64 41,.bool false] u fun e w'=>e= .returned (W64 (us1 (v 4)))∧Kept [] u w' from b6j (v 4) 14 18 41 (by decide) (by decide) (by decide) (by decide) (by decide) (by decide) u))
               have ct2:=hjd (fun u=>(show Calls Tryz.prog 135 #[W64 (v 0),.int .u64 64,.int .u64 28,.int .u64 34,.int .u64 39,.bool false] u fun e w'=>e= .returned (W64 (us0 (v 0)))∧Kept [] u w' from b6j (v 0) 28 34 39 (by decide) (by decide) (by decide) (by decide) (by decide) (by decide) u))
               have hnn:=unot (v 4)
               have hch:=ch_val (v 4) (v 5) (v 6)
               have hmj:=mj_val (v 0) (v 1) (v 2)
               have ccn:=hjd (b4m (~~~(v 4)))
               replace vrow:=hjd (VC.of vrow.out)
               generalize v 0=a0 at *
               generalize v 1=a1 at *
               generalize v 2=a2 at *
               generalize v 3=a3 at *
               generalize v 4=a4 at *
               generalize v 5=a5 at *
               generalize v 6=a6 at *
               generalize v 7=a7 at *
               generalize us1 a4=s1 at *
               generalize us0 a0=s0 at *
               generalize chB a4 a5 a6=cn at *
               generalize mjB a0 a1 a2=mn at *
               generalize ~~~a4=nm at *
               obtain⟨T1,hT1⟩:∃x,x=a7 + s1 + cn + kn + xn:=⟨_,rfl⟩
               obtain⟨T2,hT2⟩:∃x,x=s0 + mn:=⟨_,rfl⟩
               obtain⟨Z0,hZ0⟩:∃x,x=T1 + T2:=⟨_,rfl⟩
               obtain⟨Z4,hZ4⟩:∃x,x=a3 + T1:=⟨_,rfl⟩
               have eT1:=hjd (show IntKind.u64.wrap (IntKind.u64.wrap (IntKind.u64.wrap (IntKind.u64.wrap ((a7.toNat:Int) + (s1.toNat:Int)) + (cn.toNat:Int)) + (kn.toNat:Int)) + (xn.toNat:Int))=(T1.toNat:Nat)from by rw [b4z,b4z,b4z,b4z,hT1])
               have eT2:=hjd (show IntKind.u64.wrap ((s0.toNat:Int) + (mn.toNat:Int))=(T2.toNat:Nat)from by rw [b4z,hT2])
               have eZ0:=hjd (show IntKind.u64.wrap ((T1.toNat:Int) + (T2.toNat:Int))=(Z0.toNat:Nat)from by rw [b4z,hZ0])
               have eZ4:=hjd (show IntKind.u64.wrap ((a3.toNat:Int) + (T1.toNat:Int))=(Z4.toNat:Nat)from by rw [b4z,hZ4])
               rw [←hT1,←hT2,←hZ0,←hZ4]at hrows
               replace hrows:=hjd hrows
               clear hT1 hT2 hZ0 hZ4
               have cc0:=hjd (b4m Z0)
               have cc4:=hjd (b4m Z4)
               replace hnn:=hjd hnn
               replace hch:=hjd hch
               replace hmj:=hjd hmj
               replace vrow:=hjd (vrow.out.a1o (Kept.refl [] _).drew)
               replace xrow:=hjd xrow.out.drew
               replace hrow2:=hjd hrow2.out.drew
               replace H12:=hjd (H12.out.a0i (Kept.refl [] _).drew)
               refine Txt.a1y [2,5,9,15] (fun u=>VC u g o2 a0.toNat a1.toNat a2.toNat a3.toNat a4.toNat a5.toNat a6.toNat a7.toNat∧Blk u gn 25 (uv nL).toArray∧Blk u g15 67 ((fam 80 (fun i=>(sch p i).toNat)).map N64).toArray) [[_,_,_,_,_,_,_,_,_,_,_,_,_],[_,_,_,_,_,_]] (by kernel_rfl) (by kernel_rfl) rfl ⟨vrow.out,celln.out _ H12.out,xrow.out⟩ (Txt.a0h ?_)
               have hnn':=hnn.out
               obtain⟨vc0,vc1,vc2,vc3,vc4,vc5,vc6,vc7⟩:=vrow.out
               clear vc0 vc1 vc2 vc3 vc6 vc7
               go_wp2_with (first
                | (go_at_call 134;(with_reducible refine(ccn.out _).mono ?_);rintro e w31 ⟨rfl,kk⟩
                   replace vrow:=hjd (vrow.out.a1o kk)
                   replace xrow:=hjd (xrow.out.kept kk (by simp))
                   replace hrow2:=hjd (hrow2.out.kept kk (by simp))
                   replace H12:=hjd (H12.out.a0i kk)
                   clear kk vc4 vc5))
               clear hnn'
               refine⟨rfl,⟨vrow.out,celln.out _ H12.out,xrow.out⟩,Txt.a0h ?_⟩
               obtain⟨vc0,vc1,vc2,vc3,vc4,vc5,vc6,vc7⟩:=vrow.out
               clear vc0 vc1 vc2 vc3 vc4 vc5 vc7
               go_wp2_with fail
               refine⟨rfl,⟨vrow.out,celln.out _ H12.out,xrow.out⟩,Txt.a1l ⟨⟨by kernel_rfl,?_⟩,?_⟩⟩
               ·intro j hj o ho hw
                have hj2:j=2∨j=5∨j=9∨j=15:=by simpa using hj
                rcases hj2 with rfl | rfl | rfl | rfl <;> cases ho
                ·exact⟨_,rfl,fun u hu=>a1e (.tmp 198) rfl a7m rfl hu.1.2.2.2.2.1⟩
                ·exact⟨_,rfl,fun u hu=>a1e (.tmp 201) rfl a7m rfl hu.1.2.2.2.2.2.1⟩
                ·exact⟨_,rfl,fun u hu=>a1e (.tmp 205) rfl a7m rfl hu.1.2.2.2.2.1⟩
                ·exact⟨_,rfl,fun u hu=>a1e (.tmp 211) rfl a7m rfl hu.1.2.2.2.2.2.2.1⟩
               rw [hch.out]
               clear hch hnn vc6 ccn
               go_wp2_with fail
               replace vrow:=hjd (vrow.out.a1o (Kept.refl [] _).drew)
               replace xrow:=hjd xrow.out.drew
               replace hrow2:=hjd hrow2.out.drew
               replace H12:=hjd (H12.out.a0i (Kept.refl [] _).drew)
               refine Txt.a1y [2,5,9,12,17,20] (fun u=>VC u g o2 a0.toNat a1.toNat a2.toNat a3.toNat a4.toNat a5.toNat a6.toNat a7.toNat∧Blk u gn 25 (uv nL).toArray∧Blk u g15 67 ((fam 80 (fun i=>(sch p i).toNat)).map N64).toArray) [[_,_,_,_,_,_,_,_,_,_,_,_,_,_,_,_,_,_,_,_,_,_,_,_]] (by kernel_rfl) (by kernel_rfl) rfl ⟨vrow.out,celln.out _ H12.out,xrow.out⟩ (Txt.a0h ?_)
               obtain⟨vc0,vc1,vc2,vc3,vc4,vc5,vc6,vc7⟩:=vrow.out
               clear vc3 vc4 vc5 vc6 vc7
               go_wp2_with fail
               refine⟨rfl,⟨vrow.out,celln.out _ H12.out,xrow.out⟩,Txt.a1l ⟨⟨by kernel_rfl,?_⟩,?_⟩⟩
               ·intro j hj o ho hw
                have hj2:j=2∨j=5∨j=9∨j=12∨j=17∨j=20:=by simpa using hj
                rcases hj2 with rfl | rfl | rfl | rfl | rfl | rfl <;> cases ho
                ·exact⟨_,rfl,fun u hu=>a1e (.tmp 216) rfl a7m rfl hu.1.1⟩
                ·exact⟨_,rfl,fun u hu=>a1e (.tmp 219) rfl a7m rfl hu.1.2.1⟩
                ·exact⟨_,rfl,fun u hu=>a1e (.tmp 223) rfl a7m rfl hu.1.1⟩
                ·exact⟨_,rfl,fun u hu=>a1e (.tmp 226) rfl a7m rfl hu.1.2.2.1⟩
                ·exact⟨_,rfl,fun u hu=>a1e (.tmp 231) rfl a7m rfl hu.1.2.1⟩
                ·exact⟨_,rfl,fun u hu=>a1e (.tmp 234) rfl a7m rfl hu.1.2.2.1⟩
               rw [hmj.out]
               clear hmj vc0 vc1 vc2
               go_wp2_with fail
               replace vrow:=hjd (vrow.out.a1o (Kept.refl [] _).drew)
               replace xrow:=hjd xrow.out.drew
               replace hrow2:=hjd hrow2.out.drew
               replace H12:=hjd (H12.out.a0i (Kept.refl [] _).drew)
               refine Txt.a1y [2,5,9,12,15,29] (fun u=>VC u g o2 a0.toNat a1.toNat a2.toNat a3.toNat a4.toNat a5.toNat a6.toNat a7.toNat∧Blk u gn 25 (uv nL).toArray∧Blk u g15 67 ((fam 80 (fun i=>(sch p i).toNat)).map N64).toArray) [[_,_,_,_,_,_,_,_,_,_,_,_,_,_,_,_,_],[_,_,_,_,_],[_,_,_,_,_,_,_,_,_,_]] (by kernel_rfl) (by kernel_rfl) rfl ⟨vrow.out,celln.out _ H12.out,xrow.out⟩ (Txt.a0h ?_)
               obtain⟨vc0,vc1,vc2,vc3,vc4,vc5,vc6,vc7⟩:=vrow.out
               clear vc0 vc1 vc2 vc3 vc5 vc6
               have n3:=(celln.out _ H12.out).cell 3
               rw [show(uv nL).toArray[3]?=some (.int .u64 14)from rfl]at n3
               have n4:=(celln.out _ H12.out).cell 4
               rw [show(uv nL).toArray[4]?=some (.int .u64 18)from rfl]at n4
               have n5:=(celln.out _ H12.out).cell 5
               rw [show(uv nL).toArray[5]?=some (.int .u64 41)from rfl]at n5
               go_wp2_with (first
                | (go_at_call 135;(with_reducible refine(ct1.out _).mono ?_);rintro e w32 ⟨rfl,kk⟩
                   replace vrow:=hjd (vrow.out.a1o kk)
                   replace xrow:=hjd (xrow.out.kept kk (by simp))
                   replace hrow2:=hjd (hrow2.out.kept kk (by simp))
                   replace H12:=hjd (H12.out.a0i kk)
                   clear kk vc4 vc7 n3 n4 n5))
               refine⟨rfl,⟨vrow.out,celln.out _ H12.out,xrow.out⟩,Txt.a0h ?_⟩
               go_wp2_with (first
                | (go_at_call 136;(with_reducible refine(hcb.out _).mono ?_);rintro e w33 ⟨rfl,kk⟩
                   replace vrow:=hjd (vrow.out.a1o kk)
                   replace xrow:=hjd (xrow.out.kept kk (by simp))
                   replace hrow2:=hjd (hrow2.out.kept kk (by simp))
                   replace H12:=hjd (H12.out.a0i kk)
                   clear kk))
               refine⟨rfl,⟨vrow.out,celln.out _ H12.out,xrow.out⟩,Txt.a0h ?_⟩
               have qx:=hxt.out _ xrow.out
               have eT1x:=eT1.out
               go_wp2_with fail
               refine⟨rfl,⟨vrow.out,celln.out _ H12.out,xrow.out⟩,Txt.a1l ⟨⟨by kernel_rfl,?_⟩,?_⟩⟩
               ·intro j hj o ho hw
                have hj2:j=2∨j=5∨j=9∨j=12∨j=15∨j=29:=by simpa using hj
                rcases hj2 with rfl | rfl | rfl | rfl | rfl | rfl <;> cases ho
                ·exact⟨_,rfl,fun u hu=>a1e (.tmp 239) rfl a7m rfl hu.1.2.2.2.2.2.2.2⟩
                ·exact⟨_,rfl,fun u hu=>a1e (.tmp 242) rfl a7m rfl hu.1.2.2.2.2.1⟩
                ·exact⟨_,rfl,fun u hu=>a1e (.tmp 246) rfl b2t rfl (by rw [hu.2.1.cell];rfl)⟩
                ·exact⟨_,rfl,fun u hu=>a1e (.tmp 249) rfl b2t rfl (by rw [hu.2.1.cell];rfl)⟩
                ·exact⟨_,rfl,fun u hu=>a1e (.tmp 252) rfl b2t rfl (by rw [hu.2.1.cell];rfl)⟩
                ·exact⟨_,rfl,fun u hu=>a1e (.tmp 266) rfl a7m rfl (hxt.out u hu.2.2)⟩
               clear qx hcb ct1 eT1 eT1x
               go_wp2_with fail
               replace vrow:=hjd (vrow.out.a1o (Kept.refl [] _).drew)
               replace xrow:=hjd xrow.out.drew
               replace hrow2:=hjd hrow2.out.drew
               replace H12:=hjd (H12.out.a0i (Kept.refl [] _).drew)
               refine Txt.a1y [2,6,9,12] (fun u=>VC u g o2 a0.toNat a1.toNat a2.toNat a3.toNat a4.toNat a5.toNat a6.toNat a7.toNat∧Blk u gn 25 (uv nL).toArray∧Blk u g15 67 ((fam 80 (fun i=>(sch p i).toNat)).map N64).toArray) [[_,_,_,_,_,_,_,_,_,_,_,_,_,_],[_,_,_]] (by kernel_rfl) (by kernel_rfl) rfl ⟨vrow.out,celln.out _ H12.out,xrow.out⟩ (Txt.a0h ?_)
               obtain⟨vc0,vc1,vc2,vc3,vc4,vc5,vc6,vc7⟩:=vrow.out
               clear vc1 vc2 vc3 vc4 vc5 vc6 vc7
               have n0:=(celln.out _ H12.out).cell 0
               rw [show(uv nL).toArray[0]?=some (.int .u64 28)from rfl]at n0
               have n1:=(celln.out _ H12.out).cell 1
               rw [show(uv nL).toArray[1]?=some (.int .u64 34)from rfl]at n1
               have n2:=(celln.out _ H12.out).cell 2
               rw [show(uv nL).toArray[2]?=some (.int .u64 39)from rfl]at n2
               go_wp2_with (first
                | (go_at_call 135;(with_reducible refine(ct2.out _).mono ?_);rintro e w34 ⟨rfl,kk⟩
                   replace vrow:=hjd (vrow.out.a1o kk)
                   replace xrow:=hjd (xrow.out.kept kk (by simp))
                   replace hrow2:=hjd (hrow2.out.kept kk (by simp))
                   replace H12:=hjd (H12.out.a0i kk)
                   clear kk vc0 n0 n1 n2))
               refine⟨rfl,⟨vrow.out,celln.out _ H12.out,xrow.out⟩,Txt.a0h ?_⟩
               have eT2x:=eT2.out
               go_wp2_with fail
               refine⟨rfl,⟨vrow.out,celln.out _ H12.out,xrow.out⟩,Txt.a1l ⟨⟨by kernel_rfl,?_⟩,?_⟩⟩
               ·intro j hj o ho hw
                have hj2:j=2∨j=6∨j=9∨j=12:=by simpa using hj
                rcases hj2 with rfl | rfl | rfl | rfl <;> cases ho
                ·exact⟨_,rfl,fun u hu=>a1e (.tmp 270) rfl a7m rfl hu.1.1⟩
                ·exact⟨_,rfl,fun u hu=>a1e (.tmp 274) rfl b2t rfl (by rw [hu.2.1.cell];rfl)⟩
                ·exact⟨_,rfl,fun u hu=>a1e (.tmp 277) rfl b2t rfl (by rw [hu.2.1.cell];rfl)⟩
                ·exact⟨_,rfl,fun u hu=>a1e (.tmp 280) rfl b2t rfl (by rw [hu.2.1.cell];rfl)⟩
               clear ct2 eT2 eT2x
               go_wp2_with fail
               replace vrow:=hjd (vrow.out.a1o (Kept.refl [] _).drew)
               replace xrow:=hjd xrow.out.drew
               replace hrow2:=hjd hrow2.out.drew
               replace H12:=hjd (H12.out.a0i (Kept.refl [] _).drew)
               refine Txt.a1y [7,10,13,16,23,26,29] (fun u=>VC u g o2 a0.toNat a1.toNat a2.toNat a3.toNat a4.toNat a5.toNat a6.toNat a7.toNat∧Blk u gn 25 (uv nL).toArray∧Blk u g15 67 ((fam 80 (fun i=>(sch p i).toNat)).map N64).toArray) [[_,_,_,_,_],[_,_,_,_,_,_,_,_,_,_,_,_,_,_,_,_],[_,_,_,_,_,_,_,_,_,_],[_]] (by kernel_rfl) (by kernel_rfl) rfl ⟨vrow.out,celln.out _ H12.out,xrow.out⟩ (Txt.a0h ?_)
               have eZ0x:=eZ0.out
               have eZ4x:=eZ4.out
               go_wp2_with (first
                | (go_at_call 134;(with_reducible refine(cc0.out _).mono ?_);rintro e w35 ⟨rfl,kk⟩
                   replace vrow:=hjd (vrow.out.a1o kk)
                   replace xrow:=hjd (xrow.out.kept kk (by simp))
                   replace hrow2:=hjd (hrow2.out.kept kk (by simp))
                   replace H12:=hjd (H12.out.a0i kk)
                   clear kk))
               refine⟨rfl,⟨vrow.out,celln.out _ H12.out,xrow.out⟩,Txt.a0h ?_⟩
               obtain⟨vc0,vc1,vc2,vc3,vc4,vc5,vc6,vc7⟩:=vrow.out
               clear vc4 vc5 vc6 vc7
               go_wp2_with (first
                | (go_at_call 134;(with_reducible refine(cc4.out _).mono ?_);rintro e w36 ⟨rfl,kk⟩
                   replace vrow:=hjd (vrow.out.a1o kk)
                   replace xrow:=hjd (xrow.out.kept kk (by simp))
                   replace hrow2:=hjd (hrow2.out.kept kk (by simp))
                   replace H12:=hjd (H12.out.a0i kk)
                   clear kk vc0 vc1 vc2 vc3))
               refine⟨rfl,⟨vrow.out,celln.out _ H12.out,xrow.out⟩,Txt.a0h ?_⟩
               obtain⟨vc0,vc1,vc2,vc3,vc4,vc5,vc6,vc7⟩:=vrow.out
               clear vc0 vc1 vc2 vc3 vc7
               clear eZ0x eZ4x cc0 cc4
               go_wp2_with (first
                | ((with_reducible refine a0q 315 ?_);(refine c2v (o:=⟨some 315,_,_,_,_,_⟩) (v0:=N64 Z0.toNat) (v1:=N64 a0.toNat) (v2:=N64 a1.toNat) (v3:=N64 a2.toNat) (v4:=N64 Z4.toNat) (v5:=N64 a4.toNat) (v6:=N64 a5.toNat) (v7:=N64 a6.toNat) rfl b9v rfl rfl rfl rfl rfl rfl rfl rfl rfl rfl rfl rfl rfl rfl rfl rfl rfl ?_);intro gv2 wv2 mv2
                   have hvr:=hjd (show VR wv2 gv2 0 (a5t p (a7a pm n) (t + 1))from by rw [hrt.out];exact VC.vr mv2.blk hrows.out)
                   have hgv2:=hjd (show gv2≠g12 from fun e=>by have:=hrow2.out.lt;have:=mv2.le;omega)
                   replace vrow:=hjd (vrow.out.a1o mv2.kept)
                   replace xrow:=hjd (xrow.out.kept mv2.kept (by simp))
                   replace hrow2:=hjd (hrow2.out.kept mv2.kept (by simp))
                   replace H12:=hjd (H12.out.a0i mv2.kept)
                   clear mv2 vc4 vc5 vc6))
               refine⟨rfl,⟨vrow.out,celln.out _ H12.out,xrow.out⟩,Txt.a0h ?_⟩
               go_wp2_with fail
               refine⟨rfl,⟨vrow.out,celln.out _ H12.out,xrow.out⟩,Txt.a1l ⟨⟨by kernel_rfl,?_⟩,?_⟩⟩
               ·intro j hj o ho hw
                have hj2:j=7∨j=10∨j=13∨j=16∨j=23∨j=26∨j=29:=by simpa using hj
                rcases hj2 with rfl | rfl | rfl | rfl | rfl | rfl | rfl <;> cases ho
                ·exact⟨_,rfl,fun u hu=>a1e (.tmp 291) rfl a7m rfl hu.1.1⟩
                ·exact⟨_,rfl,fun u hu=>a1e (.tmp 294) rfl a7m rfl hu.1.2.1⟩
                ·exact⟨_,rfl,fun u hu=>a1e (.tmp 297) rfl a7m rfl hu.1.2.2.1⟩
                ·exact⟨_,rfl,fun u hu=>a1e (.tmp 300) rfl a7m rfl hu.1.2.2.2.1⟩
                ·exact⟨_,rfl,fun u hu=>a1e (.tmp 307) rfl a7m rfl hu.1.2.2.2.2.1⟩
                ·exact⟨_,rfl,fun u hu=>a1e (.tmp 310) rfl a7m rfl hu.1.2.2.2.2.2.1⟩
                ·exact⟨_,rfl,fun u hu=>a1e (.tmp 313) rfl a7m rfl hu.1.2.2.2.2.2.2.1⟩
               go_wp2_with fail
               go_roundg (80 - (t + 1))
               case measure=>omega
               case rel=>exact⟨t + 1,gv2,0,8,by omega,by omega,by go_num,rfl,hvr,hgv2,xrow,hrow2,H12⟩
              ·obtain rfl:t=80:=by omega
               have hA0:=hjd (show Blk wr g12 67 ((fam 8 (mix (fun i=>(a7a pm n i).toNat) (fun i=>(a7a pm n i + a5t p (a7a pm n) 80 i).toNat) 0)).map N64).toArray from by rw [a4d];exact hrow2.out)
               generalize hvv:a5t p (a7a pm n) 80=v at *
               replace hvv:=hjd hvv
               generalize hbn:a7a pm n=hA at *
               replace hbn:=hjd hbn
               clear xrow hrow2
               go_wp2_with fail
               go_loopg [318] 8 (fun fu i wk=>∃k:Nat,k≤8∧fu + k=8∧i= .int .i64 (k:Int)∧Hid (Blk wk g12 67 ((fam 8 (mix (fun i=>(hA i).toNat) (fun i=>(hA i + v i).toNat) k)).map N64).toArray)∧Hid (VR wk g o2 v)∧Hid (New wn wk (.slice (some ⟨bm,om,none⟩) (M0.length + 16) c3) pm))
               case atStart=>exact⟨0,by omega,by omega,rfl,hA0,vrow,H12⟩
               case round=>
                clear hA0 vrow H12
                obtain⟨k,hk9,hfu9,rfl,hA0,vrow,H12⟩:=hrel
                by_cases hlt9:k < 8
                ·as_aux_lemma=>--<
                 go_wp2_with fail
                 replace hA0:=hjd hA0.out.drew
                 replace vrow:=hjd (vrow.out.a1o (Kept.refl [] _).drew)
                 replace H12:=hjd (H12.out.a0i (Kept.refl [] _).drew)
                 have cA:=hjd (fun(u:World) (h:Blk u g12 67 ((fam 8 (mix (fun i=>(hA i).toNat) (fun i=>(hA i + v i).toNat) k)).map N64).toArray)=>(show u.cell? ⟨g12,k,none⟩=some (N64 (hA k).toNat)from by rw [h.a7r k hlt9,c2k _ _ (Nat.le_refl _)]))
                 have cV:=hjd (fun(u:World) (h:VR u g o2 v)=>(show u.cell? ⟨g,o2 + k,none⟩=some (N64 (v k).toNat)from h k hlt9))
                 have hst:=hjd (fun(u:World) (h:Blk u g12 67 ((fam 8 (mix (fun i=>(hA i).toNat) (fun i=>(hA i + v i).toNat) k)).map N64).toArray)=>(show Blk (u.setCell ⟨g12,k,none⟩ (N64 (hA k + v k).toNat)) g12 67 ((fam 8 (mix (fun i=>(hA i).toNat) (fun i=>(hA i + v i).toNat) (k + 1))).map N64).toArray from h.a8m))
                 have ccut:=hjd (b4m (hA k + v k))
                 have hs0:=b4z (hA k) (v k)
                 generalize hA k + v k=s9 at *
                 generalize hA k=x9 at *
                 generalize v k=y9 at *
                 have q12:=cA.out _ hA0.out
                 have qv:=cV.out _ vrow.out
                 refine Txt.b0y [5,9] (fun u=>Blk u g12 67 ((fam 8 (mix (fun i=>(hA i).toNat) (fun i=>(hA i + v i).toNat) k)).map N64).toArray∧VR u g o2 v) [_,_,_,_,_,_,_,_,_,_,_,_,_,_] _ rfl [[_,_,_,_,_,_,_,_,_,_,_,_,_],[_]] (by kernel_rfl) (by kernel_rfl) (by kernel_rfl) rfl ⟨hA0.out,vrow.out⟩ (Txt.a0h ?_)
                 go_wp2_with (first
                  | (go_at_call 134;(with_reducible refine(ccut.out _).mono ?_);rintro e w41 ⟨rfl,kk⟩
                     replace hA0:=hjd (hA0.out.kept kk (by simp))
                     replace vrow:=hjd (vrow.out.a1o kk)
                     replace H12:=hjd (H12.out.a0i kk)
                     clear kk q12 qv))
                 refine⟨rfl,⟨hA0.out,vrow.out⟩,Txt.a0h ?_⟩
                 go_wp2_with fail
                 refine⟨rfl,⟨hA0.out,vrow.out⟩,Txt.a1l ⟨⟨by kernel_rfl,?_⟩,?_⟩⟩
                 ·intro j hj o ho hw
                  have hj2:j=5∨j=9:=by simpa using hj
                  rcases hj2 with rfl | rfl <;> cases ho
                  ·exact⟨_,rfl,fun u hu=>a1e (.tmp 325) rfl a7m rfl (cA.out u hu.1)⟩
                  ·exact⟨_,rfl,fun u hu=>a1e (.tmp 329) rfl a7m rfl (cV.out u hu.2)⟩
                 obtain⟨yx,hyx⟩:∃y,w41.cell? ⟨g12,k,none⟩=some y:=⟨_,hA0.out.a7r k hlt9⟩
                 have fx:=hA0.out.frozen k
                 go_wp2_with fail
                 go_roundg (8 - (k + 1))
                 case measure=>omega
                 case rel=>exact⟨k + 1,by omega,by omega,by go_num,hjd (hst.out _ hA0.out),hjd (vrow.out.keptS ((Kept.refl [g12] _).setCell (.inl (by simp)) _) (by simpa using ngv.out)),hjd (New.c0q H12.out (H12.out.ow.b8w hA0.out (by decide)) l12.out _)⟩
                ·obtain rfl:k=8:=by omega
                 have hrow3:=hjd (show Blk wr g12 67 ((fam 8 (fun i=>(a7a pm (n + 1) i).toNat)).map N64).toArray from by
                  have:=hA0.out
                  rw [a3j]at this
                  have hbk:a7a pm (n + 1)=fun i=>hA i + v i:=by
                   show blk (fun j=>pm.getD (128 * n + j) 0) (a7a pm n)=_
                   rw [←han.out,hp.out,hbn.out,←hvv.out]
                   rfl
                  rw [hbk];exact this)
                 clear hA0 vrow
                 have e64:128 * (n + 1)=an + 128:=by have:=han.out;omega
                 go_wp2_with fail
                 go_roundg (N - (n + 1))
                 case measure=>omega
                 case rel=>exact⟨n + 1,by omega,by omega,by rw [e64];rfl,hrow3,H12⟩
        ·obtain rfl:n=N:=by omega
         obtain⟨an,han⟩:∃x,x=128 * n:=⟨_,rfl⟩
         rw [←han]at hM8 ⊢
         replace han:=hjd han
         have hatF:(an < M0.length + 16)=False:=eq_false (by omega)
         have hatG:((an:Int) < (M0.length:Int) + 16)=False:=eq_false (by omega)
         replace hM8:=hjd hM8
         have H50:=hjd (show New wn wr (.slice none 0 0) (fam (8 * 0) (b9c (a7a pm n)))from⟨Ow.nil _ _ _,H11.out.kept,.inl rfl⟩)
         generalize hH:a7a pm n=H at *
         replace hH:=hjd hH
         have l12g:=hjd hrow.out.lt
         clear H11
         go_wp2_with fail
         go_loopg [26,338] 8 (fun fu o i wk=>∃(k c:Nat) (A:Option Addr),k≤8∧fu + k=8∧i= .int .i64 (k:Int)∧o= .slice A (8 * k) c∧Hid (New wn wk (.slice A (8 * k) c) (fam (8 * k) (b9c H)))∧Hid (Blk wk g12 67 ((fam 8 (fun i=>(H i).toNat)).map N64).toArray))
         case atStart=>exact⟨0,0,none,by omega,by omega,rfl,rfl,H50,hrow⟩
         case round=>
          clear H50 hrow
          obtain⟨k,c5,A5,hk10,hfu10,rfl,rfl,H50,hrow⟩:=hrel
          by_cases hlt10:k < 8
          ·as_aux_lemma=>--<
           have q12:wr.cell? ⟨g12,k,none⟩=some (N64 (H k).toNat):=hrow.out.a7r k hlt10
           have bH:=(H k).isLt
           have dd:=hjd (fun(i:Nat) (hi:i < 8)=>e1q H k i hi)
           generalize (H k).toNat=yk at *
           have bH':=hjd bH
           clear bH
           have hlt10T:((k:Int) < 8)=True:=eq_true (by omega)
           go_wp2_with fail
           clear hlt10T
           go_loopg [26,29] 8 (fun fu o j wk=>∃(i c:Nat) (A:Option Addr),i≤8∧fu + i=8∧j= .int .i64 (7 - (i:Int))∧o= .slice A (8 * k + i) c∧Hid (New wn wk (.slice A (8 * k + i) c) (fam (8 * k + i) (b9c H)))∧Hid (Blk wk g12 67 ((fam 8 (fun i=>(H i).toNat)).map N64).toArray))
           case atStart=>exact⟨0,c5,A5,by omega,by omega,rfl,rfl,H50,hrow⟩
           case round=>
            clear H50 hrow q12
            obtain⟨i,c6,A6,hi11,hfu11,rfl,rfl,H50,hrow⟩:=hrel
            by_cases hlt11:i < 8
            ·obtain⟨s,hs,hs2⟩:∃s:Nat,s=56 - 8 * i∧(8:Int) * (7 - (i:Int))=(s:Int):=⟨_,rfl,by omega⟩
             have hsw:IntKind.u64.wrap (s:Int)=(s:Int):=by rw [IntKind.wrap_u64];omega
             have hi0:(0:Int)≤7 - (i:Int):=by omega
             have d1:(yk:Int) / 2 ^ s % 256=((b9c H (8 * k + i)).toNat:Int):=by rw [hs];exact dd.out i hlt11
             replace hs:=hjd hs
             generalize hz:b9c H (8 * k + i)=z at *
             generalize hL:8 * k + i=L at *
             have hLs:L≤100:=by omega
             have hl:(fam L (b9c H)).length=L:=by simp [fam]
             go_wp2_with (first
              | ((with_reducible refine a0q 355 ?_);(refine a2b (o:=⟨some 355,_,_,_,_,_⟩) (v0:=a1q z) (cells:=(bv [z]).toArray) rfl a2x rfl (by first | rfl | (show Value.int .u8 ((yk:Int) / 2 ^ s % 256)=a1q z;rw [d1];rfl)) (by decide) rfl rfl ?_);intro g7 w7 m7
                 have b7:=hjd (show Rd w7 1 (.slice (some ⟨g7,0,none⟩) 1 1) 1 (bv [z])from⟨_,_,rfl,rfl,by omega,fun _=>⟨g7,0,rfl,fun j u hu=>by rw [m7.blk.cell];simpa using hu⟩⟩)
                 have k7:=hjd m7.kept
                 clear m7)
              | (at_builtin
                 refine a5a (n:=L) (m:=1) a2x rfl (.tmp 348) (.tmp 355) rfl rfl (by have:=H50.out.ow.a1o k7.out;rw [hl]at this;exact this) rfl b7.out (a5z _) (by omega) (by omega) ?_
                 intro v' w9 o9 k9 f9
                 obtain⟨A7,c7,hv',hlc'⟩:=o9.shape
                 subst hv'
                 have H51:=hjd (H50.out.e6z k7.out (by rw [hl];exact o9) k9 f9)
                 have hrow2:=hjd ((hrow.out.kept k7.out (by simp)).kept k9 (c9x (H50.out.ow.b8w hrow.out (by decide))))
                 clear o9 k9 f9 k7 b7 hrow))
             go_roundg (8 - (i + 1))
             case measure=>omega
             case rel=>
              refine⟨i + 1,c7,A7,by omega,by omega,by go_num,by subst hL;rfl,?_,hrow2⟩
              have e:fam (8 * k + (i + 1)) (b9c H)=fam L (b9c H) ++ [z]:=by rw [←hz,←hL];exact d7d (8 * k + i) (b9c H)
              rw [e,show 8 * k + (i + 1)=L + 1 from by omega]
              exact H51
            ·obtain rfl:i=8:=by omega
             go_wp2_with fail
             go_roundg (8 - (k + 1))
             case measure=>omega
             case rel=>exact⟨k + 1,c6,A6,by omega,by omega,by go_num,rfl,H50,hrow⟩
          ·obtain rfl:k=8:=by omega
           go_wp2_with fail
           go_ret
           refine⟨_,rfl,?_⟩
           rw [←hH.out]at H50
           exact⟨H50.out.ow,K.out.a0i H50.out.kept,by
            rcases H50.out.near with h | ⟨g,h,hg⟩
            ·exact .inl h
            ·exact .inr ⟨g,h,by have:=K.out.size;omega⟩⟩
end Go.Proofs.YtdbngnlpafcogaaGreat.Q
