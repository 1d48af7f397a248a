/-
  The document's digests: the walk (32 bits).
-/
import Derived.Test.YtdbngnlpafcogaaGreatZbJ00
import Derived.Test.YtdbngnlpafcogaaGreatZbSh5
set_option maxRecDepth 100000
namespace Go.Proofs.YtdbngnlpafcogaaGreat
open Go.RowKit Go.Mem Go.Txt
def lbF(q j i:Nat):UInt8:=if 8≤i + j then UInt8.ofNat (q / 256 ^ (7 - i))else 0
theorem e5u(q:Nat):fam 8 (lbF q 8)=be8 q:=by
 unfold fam be8
 apply List.map_congr_left
 intro i _
 unfold lbF
 rw [if_pos (by omega)]
theorem e5o(q j:Nat)(hj:j < 8):(fun i=>if i=7 - j then UInt8.ofNat (q / 256 ^ j)else lbF q j i)=lbF q (j + 1):=by
 funext i
 unfold lbF
 by_cases h1:i=7 - j
 ·rw [if_pos h1,if_pos (by omega),h1,show 7 - (7 - j)=j from by omega]
 ·rw [if_neg h1]
  by_cases h2:8≤i + j
  ·rw [if_pos h2,if_pos (by omega)]
  ·rw [if_neg h2,if_neg (by omega)]
theorem d0l(n:Nat):Value.int .u8 ((n:Int) % 256)=a1h (UInt8.ofNat n):=by
 unfold a1h
 rw [UInt8.toNat_ofNat']
 congr 1
theorem d9c:∀k,k < 8→a3o.getD k 0 < 18446744073709551616:=by decide
theorem hi_lt(n:Nat)(h:n < 18446744073709551616):(n:Int) / 4294967296=((b3p n).toNat:Nat):=by
 unfold b3p
 rw [BitVec.toNat_ofNat]
 omega
theorem b3h(w:World):(isAgg 25).run Tryz.prog w= .ok false w:=by kernel_rfl
theorem New.b9u{w w1:World}{v:Value}{xs:List UInt8}(h:New w w1 v xs){p:Addr}(hp:v.ownBlock≠some p.block)(hw:w.heap.size≤p.block)(u:Value):New w (w1.setCell p u) v xs:=⟨h.ow.setCell hp u,h.kept.setCell (.inr hw) u,h.near⟩
set_option maxHeartbeats 8000000 in
theorem c9h(v:Value)(b:List UInt8)(w:World)(hr:Rd w 1 v b.length (bv b))(hb:b.length≤1000000000000) :
 Calls Tryz.prog 67 #[v,.int .u64 32] w fun e w'=>∃v',e= .returned v'∧New w w' v' (sha b):=by
 have R:=hjd hr
 obtain⟨A,c,rfl,_,hc,_⟩:=hr
 have csq:=hjd c9d
 have hsha:sha b=c0w (a5f (pad b) ((pad b).length / 64)):=rfl
 have ep:=hjd (show pad b=(b ++ 128 :: List.replicate (pzS b.length) 0) ++ be8 (8 * b.length)from rfl)
 obtain⟨N,hN⟩:∃N,(pad b).length=64 * N:=⟨(pad b).length / 64,by have:=b8x b;omega⟩
 rw [show(pad b).length / 64=N from by omega]at hsha
 rw [hsha]
 clear hsha
 generalize pad b=pm at *
 replace hN:=hjd hN
 obtain⟨Z8,hZ8,mk8⟩:=d6t 8 (by decide)
 obtain⟨Z12,hZ12,mk12⟩:=c7v 8 (by decide)
 replace hZ8:=hjd hZ8
 replace hZ12:=hjd hZ12
 have mk8':∀W:World,(Instr.makeSlice 23 (.int .i64 8) (.int .i64 8)).run Tryz.prog W= .ok (.slice (some ⟨W.heap.size,0,none⟩) 8 8) (W.alloc (.cells Z8 5)):=mk8
 have mk12':∀W:World,(Instr.makeSlice 158 (.int .i64 8) (.int .i64 8)).run Tryz.prog W= .ok (.slice (some ⟨W.heap.size,0,none⟩) 8 8) (W.alloc (.cells Z12 67)):=mk12
 clear mk8 mk12
 go_enter Tryz.func67,Tryz.ntmps67
 go_wp2_with (first
  | ((with_reducible refine a0l 30 ?_);(refine b0l (o:=⟨some 30,_,_,_,_,_⟩) (cells:=(uv nL).toArray) (vs:=(uv nL).zipIdx.map fun p=>(p.2,p.1)) rfl uintsT rfl (by kernel_rfl) (by decide) (by decide) (by kernel_rfl) ?_);intro gn wn mn
     have BN:=hjd mn.blk
     have LN:=hjd mn.le
     have K:=hjd mn.kept
     replace R:=hjd (R.out.a0o mn.kept)
     clear mn)
  | (at_builtin
     refine a1v a1l rfl (.tmp 37) (.tmp 38) rfl rfl (xs:=[]) (n:=0) (Ow.b7k (a6o (by simp) rfl rfl (by omega))) rfl (R.out.alloc _) (a2q _) (by omega) (by omega) ?_
     intro v' w' hown hk hb
     rw [Nat.zero_add]at hown
     obtain⟨A1,c1,hv',hlc'⟩:=hown.shape
     subst hv'
     have hk9:Kept (Value.slice (some ⟨wn.heap.size,0,none⟩) 0 0).ownBlock.toList (wn.alloc (.cells #[] 5)) w':=hk
     have hk0:Kept [] wn w':=Kept.fresh ((Kept.refl [] wn).alloc _) hk9 (by simp [Value.ownBlock])
     have hb9:(Value.slice A1 b.length c1).ownBlock=(Value.slice (some ⟨wn.heap.size,0,none⟩) 0 0).ownBlock∨(Value.slice A1 b.length c1).ownBlock=some (wn.alloc (.cells #[] 5)).heap.size:=hb
     have H:=hjd (show New wn w' (.slice A1 b.length c1) b from⟨by simpa using hown,hk0,by
      rcases hb9 with hb | hb
      ·exact .inr ⟨_,hb,Nat.le_refl _⟩
      ·exact .inr ⟨_,hb,by simp⟩⟩)
     clear hown hk hb hk0 hk9 hb9)
  | ((with_reducible refine a0l 41 ?_);(refine a1c (o:=⟨some 41,_,_,_,_,_⟩) (v0:=.int .u8 128) (cells:=(bv [128]).toArray) rfl a1l rfl rfl (by decide) rfl rfl ?_);intro g7 w7 m7
     have b7:=hjd (show Rd w7 1 (.slice (some ⟨g7,0,none⟩) 1 1) 1 (bv [128])from⟨_,_,rfl,rfl,by omega,fun _=>⟨g7,0,rfl,fun j u hu=>by rw [m7.blk.cell];simpa using hu⟩⟩)
     have k7:=hjd m7.kept
     clear m7)
  | (at_builtin
     refine a1v (n:=b.length) (m:=1) a1l rfl (.tmp 40) (.tmp 41) rfl rfl (H.out.ow.a0o k7.out) rfl b7.out (a2q _) (by omega) (by omega) ?_
     intro v' w9 o9 k9 f9
     obtain⟨A2,c2,hv',hlc'⟩:=o9.shape
     subst hv'
     have H2:=hjd (New.c9y (v:=.slice A1 b.length c1) H.out k7.out o9 k9 f9)
     clear o9 k9 f9 k7 b7 H))
 have KN:=hjd (K.out.a0g H2.out.kept)
 have BN2:=hjd (BN.out.kept H2.out.kept (by simp))
 clear R
 go_loopg [8] (pzS b.length) (fun fu o wk=>∃(j:Nat) (A:Option Addr) (c:Nat),j≤pzS b.length∧fu + j=pzS b.length∧o= .slice A (b.length + 1 + j) c∧Hid (New wn wk (.slice A (b.length + 1 + j) c) (b ++ 128 :: List.replicate j 0)))
 case atStart=>exact⟨0,A2,c2,by omega,by omega,rfl,H2⟩
 case round=>
  clear H2
  obtain⟨j,Aj,cj,hj,hfu,rfl,H⟩:=hrel
  have hz:=c8k b.length
  by_cases hlt:j < pzS b.length
  ·as_aux_lemma=>--<
   have hne:¬(b.length + 1 + j + 8) % 64=0:=fun e=>by have:=(c3u hj).1 e;omega
   generalize hL:b.length + 1 + j=L at *
   have hne1:(((L:Int) + 8) % 64=0)=False:=eq_false (by omega)
   have hne2:(((L:Int) + 8).tmod 64=0)=False:=eq_false (by rw [Int.tmod_eq_emod_of_nonneg (by omega)];omega)
   have hLs:L≤1000000000100:=by omega
   go_wp2_with (first
    | ((with_reducible refine a0l 53 ?_);(refine a1c (o:=⟨some 53,_,_,_,_,_⟩) (v0:=.int .u8 0) (cells:=(bv [0]).toArray) rfl a1l rfl rfl (by decide) rfl rfl ?_);intro g7 w7 m7
       have b7:=hjd (show Rd w7 1 (.slice (some ⟨g7,0,none⟩) 1 1) 1 (bv [0])from⟨_,_,rfl,rfl,by omega,fun _=>⟨g7,0,rfl,fun j u hu=>by rw [m7.blk.cell];simpa using hu⟩⟩)
       have k7:=hjd m7.kept
       clear m7)
    | (at_builtin
       refine a1v (n:=L) (m:=1) a1l rfl (.tmp 52) (.tmp 53) rfl rfl (by have:=H.out.ow.a0o k7.out;have e:(b ++ 128 :: List.replicate j 0).length=L:=(by simp;omega);rw [e]at this;exact this) rfl b7.out (a2q _) (by omega) (by omega) ?_
       intro v' w9 o9 k9 f9
       have e:(b ++ 128 :: List.replicate j 0).length=L:=by simp;omega
       obtain⟨A3,c3,hv',hlc'⟩:=o9.shape
       subst hv'
       replace H:=hjd (H.out.c9y k7.out (by rw [e];exact o9) k9 f9)
       clear o9 k9 f9 k7 b7 e))
   go_roundg (pzS b.length - (j + 1))
   case measure=>omega
   case rel=>
    have e:b ++ 128 :: List.replicate (j + 1) 0=(b ++ 128 :: List.replicate j 0) ++ [0]:=by simp [List.replicate_succ']
    refine⟨j + 1,A3,c3,by omega,by omega,by rw [←hL];rfl,?_⟩
    rw [e,show b.length + 1 + (j + 1)=L + 1 from by omega]
    exact H
  ·obtain rfl:j=pzS b.length:=by omega
   have heq:=(c3u hj).2 rfl
   generalize hL:b.length + 1 + pzS b.length=L at *
   have heq1:(((L:Int) + 8) % 64=0):=by omega
   have heq2:(((L:Int) + 8).tmod 64=0):=by rw [Int.tmod_eq_emod_of_nonneg (by omega)];omega
   have hLs:L≤1000000000100:=by omega
   have e:(b ++ 128 :: List.replicate (pzS b.length) 0).length=L:=by simp;omega
   have ep2:=hjd (show pm=(b ++ 128 :: List.replicate (pzS b.length) 0) ++ be8 (8 * b.length)from ep.out)
   have hpl:=hjd (show pm.length=L + 8 from by rw [ep2.out,List.length_append,e,a1p])
   clear ep
   generalize b ++ 128 :: List.replicate (pzS b.length) 0=M0 at *
   have q8:IntKind.u64.wrap (8 * (b.length:Int))=((8 * b.length:Nat):Int):=by rw [IntKind.wrap_u64];omega
   have q8':IntKind.u64.wrap ((b.length:Int) * 8)=((8 * b.length:Nat):Int):=by rw [IntKind.wrap_u64];omega
   have hqs:8 * b.length < 18446744073709551616:=by omega
   generalize 8 * b.length=q at *
   subst e
   go_wp2_with fail
   have b9:=hjd (show Blk (wr.alloc (.cells Z8 5)) wr.heap.size 5 ((fam 8 (lbF q 0)).map a1h).toArray from by
    have e:fam 8 (lbF q 0)=fam 8 (fun _=>(0:UInt8)):=a4x 8 fun i hi=>by unfold lbF;rw [if_neg (by omega)]
    rw [e,←hZ8.out];exact Blk.new _ _ _)
   have H9:=hjd (H.out.a0g ((Kept.refl [] wr).alloc (.cells Z8 5)))
   have n9:=hjd (show(Value.slice Aj M0.length cj).ownBlock≠some wr.heap.size from fun h=>by have:=H.out.ow.lt h;omega)
   have l9:=hjd (show wn.heap.size≤wr.heap.size from H.out.kept.size)
   clear H
   generalize wr.alloc (.cells Z8 5)=u9 at *
   generalize wr.heap.size=g9 at *
   clear mk8'
   go_loopg [10,11] 8 (fun fu o i wk=>∃j:Nat,j≤8∧fu + j=8∧i= .int .i64 (7 - (j:Int))∧o= .int .u64 ((q / 256 ^ j:Nat):Int)∧Hid (Blk wk g9 5 ((fam 8 (lbF q j)).map a1h).toArray)∧Hid (New wn wk (.slice Aj M0.length cj) M0))
   case atStart=>exact⟨0,by omega,by omega,rfl,by rw [Nat.pow_zero,Nat.div_one],b9,H9⟩
   case round=>
    clear b9 H9
    obtain⟨j,hj8,hfu8,rfl,rfl,b9,H9⟩:=hrel
    by_cases hlt8:j < 8
    ·as_aux_lemma=>--<
     have e7:(7:Int) - (j:Int)=((7 - j:Nat):Int):=by omega
     have hset:=hjd (e5o q j hlt8)
     have hnx:=hjd (show q / 256 ^ (j + 1)=q / 256 ^ j / 256 from by rw [Nat.pow_succ,Nat.div_div_eq_div_mul])
     have hql:q / 256 ^ j < 18446744073709551616:=Nat.lt_of_le_of_lt (Nat.div_le_self _ _) hqs
     generalize q / 256 ^ j=qj at *
     have hby:=hjd (d0l qj)
     have ht1:(qj:Int).tmod 256=(qj:Int) % 256:=Int.tmod_eq_emod_of_nonneg (by omega)
     obtain⟨q2,hq2⟩:∃x,x=qj / 256:=⟨_,rfl⟩
     have ht2:(qj:Int).tdiv 256=(q2:Int):=by rw [Int.tdiv_eq_ediv_of_nonneg (by omega)];omega
     have ht3:(qj:Int) / 256=(q2:Int):=by omega
     replace hq2:=hjd hq2
     have hi8:7 - j < 8:=by omega
     have q9:=b9.out.a6j (7 - j) hi8
     have f9:=b9.out.frozen (7 - j)
     obtain⟨y9,hy9⟩:∃y,wr.cell? ⟨g9,7 - j,none⟩=some y:=⟨_,q9⟩
     clear q9
     generalize hi0:7 - j=i0 at *
     replace hi0:=hjd hi0
     go_wp2_with fail
     go_roundg (8 - (j + 1))
     case measure=>omega
     case rel=>
      refine⟨j + 1,by omega,by omega,by go_num,by rw [hnx.out,hq2.out],?_,?_⟩
      ·rw [←hset.out,←hi0.out]
       have:=b9.out.e1z i0 (UInt8.ofNat qj)
       rw [←hby.out,←hi0.out]at this
       exact hjd this
      ·exact hjd (H9.out.b9u n9.out l9.out _)
    ·obtain rfl:j=8:=by omega
     have b9':=b9.out
     rw [e5u]at b9'
     have r9:=hjd (b9'.rd (n:=8) (c:=8) (by rw [List.length_map,a1p]) (Nat.le_refl _))
     have hM0:M0.length≤1000000000100:=by omega
     clear b9' b9
     go_wp2_with (first
      | (at_builtin
         refine a1v (n:=M0.length) (m:=8) a1l rfl (.tmp 77) (.tmp 78) rfl rfl H9.out.ow rfl r9.out (a2q _) (by omega) (by omega) ?_
         intro v' w10 o10 k10 f10
         obtain⟨A3,c3,hv',hlc'⟩:=o10.shape
         subst hv'
         have H10:=hjd (show New wn w10 (.slice A3 (M0.length + 8) c3) pm from by
          have hl:(M0 ++ be8 q).length=M0.length + 8:=by rw [List.length_append,a1p]
          have:=H9.out.step (S:=(Value.slice Aj M0.length cj).ownBlock.toList) (ys:=M0 ++ be8 q) (by rw [hl];simpa [bv]using o10) k10 H9.out.old (by
           rcases f10 with e | e
           ·exact .inl e
           ·exact .inr ⟨_,e,H9.out.kept.size⟩)
          rw [ep2.out];exact this)
         clear o10 k10 f10 r9 H9))
     have g12s:=hjd (show Blk (w10.alloc (.cells Z12 67)) w10.heap.size 67 ((fam 8 (mix (fun _=>0) (fun i=>(b3p (a3o.getD i 0)).toNat) 0)).map N64).toArray from by
      rw [a5w,←hZ12.out];exact Blk.new _ _ _)
     have H11:=hjd (H10.out.a0g ((Kept.refl [] w10).alloc (.cells Z12 67)))
     have l12:=hjd (show wn.heap.size≤w10.heap.size from H10.out.kept.size)
     clear H10 mk12'
     generalize w10.alloc (.cells Z12 67)=u12 at *
     generalize w10.heap.size=g12 at *
     go_loopg [83] 8 (fun fu i wk=>∃k:Nat,k≤8∧fu + k=8∧i= .int .i64 (k:Int)∧Hid (Blk wk g12 67 ((fam 8 (mix (fun _=>0) (fun i=>(b3p (a3o.getD i 0)).toNat) k)).map N64).toArray)∧Hid (New wn wk (.slice A3 (M0.length + 8) c3) pm))
     case atStart=>exact⟨0,by omega,by omega,rfl,g12s,H11⟩
     case round=>
      clear g12s H11
      obtain⟨k,hk3,hfu3,rfl,g12s,H11⟩:=hrel
      by_cases hlt3:k < 8
      ·as_aux_lemma=>--<
       have cq:=hjd (csq.out k hlt3)
       have hv:=hi_lt _ (d9c k hlt3)
       have hst:=hjd (g12s.out.a7v)
       have q12:=g12s.out.a6j k hlt3
       have f12:=g12s.out.frozen k
       obtain⟨y12,hy12⟩:∃y,wr.cell? ⟨g12,k,none⟩=some y:=⟨_,q12⟩
       clear q12
       generalize hrk:a3o.getD k 0=rk at *
       replace hrk:=hjd hrk
       go_wp2_with (first
        | (go_at_call 133;(with_reducible refine(cq.out _).mono ?_);rintro e w13 ⟨rfl,k13⟩
           have G13:=hjd (g12s.out.kept k13 (by simp))
           have H13:=hjd (H11.out.a0g k13)
           have f13:=G13.out.frozen k
           have hy13:=k13.cell hy12 (by simp)
           clear k13))
       go_roundg (8 - (k + 1))
       case measure=>omega
       case rel=>
        refine⟨k + 1,by omega,by omega,by go_num,hjd ?_,hjd (H13.out.b9u (H13.out.ow.a4n G13.out (by decide)) l12.out _)⟩
        have hb:Blk (w13.setCell ⟨g12,k,none⟩ (N64 ((b3p (a3o.getD k 0)).toNat))) g12 67 _:=G13.out.a7v
        rw [hrk.out]at hb
        exact hb
      ·obtain rfl:k=8:=by omega
       rw [show((8:Nat):Int)=8 from rfl]
       have hrow:=hjd (show Blk wr g12 67 ((fam 8 (fun i=>(a5f pm 0 i).toNat)).map N64).toArray from by
        have:=g12s.out
        rwa [a3f]at this)
       clear g12s csq
       obtain⟨bm,om,cm,heq,_,hcm⟩:=(Rd.a6u H11.out.ow).at_ (by rw [hpl.out];omega)
       have hA3:∃A,A3=some A:=⟨⟨bm,om,none⟩,by injection heq⟩
       have hA3':A3=some ⟨bm,om,none⟩:=by injection heq
       subst hA3'
       clear heq hcm hA3
       have cellm:=hjd (fun(u:World) (h:New wn u (.slice (some ⟨bm,om,none⟩) (M0.length + 8) c3) pm) (j:Nat) (hj:j < pm.length)=>(show u.cell? ⟨bm,om + j,none⟩=some (.int .u8 ((pm.getD j 0).toNat:Int))from by
        obtain⟨b',o',c',heq,_,hc⟩:=(Rd.a6u h.ow).at_ (by omega)
        injection heq with h1
        injection h1 with h1
        injection h1 with h1 h2
        subst h1
        subst h2
        exact hc j _ (by simp [a1h,hj,List.getD_eq_getElem?_getD])))
       have hLN:=hjd (show M0.length + 8=64 * N from by rw [←hpl.out,hN.out])
       obtain⟨Z15,hZ15,mk15⟩:=c7v 64 (by decide)
       replace hZ15:=hjd hZ15
       have mk15':∀W:World,(Instr.makeSlice 158 (.int .i64 64) (.int .i64 64)).run Tryz.prog W= .ok (.slice (some ⟨W.heap.size,0,none⟩) 64 64) (W.alloc (.cells Z15 67)):=mk15
       clear mk15
       go_wp2_with fail
       go_loopg [14] N (fun fu o wk=>∃n:Nat,n≤N∧fu + n=N∧o= .int .i64 ((64 * n:Nat):Int)∧Hid (Blk wk g12 67 ((fam 8 (fun i=>(a5f pm n i).toNat)).map N64).toArray)∧Hid (New wn wk (.slice (some ⟨bm,om,none⟩) (M0.length + 8) c3) pm))
       case atStart=>exact⟨0,by omega,by omega,rfl,hrow,H11⟩
       case round=>
        clear hrow H11
        obtain⟨n,hn4,hfu4,rfl,hrow,H11⟩:=hrel
        have hM8:M0.length + 8=64 * N:=hLN.out
        by_cases hlt4:n < N
        ·have hat:64 * n < M0.length + 8:=by omega
         have hats:64 * n≤2000000000000:=by omega
         replace hM8:=hjd hM8
         obtain⟨an,han⟩:∃x,x=64 * n:=⟨_,rfl⟩
         rw [←han]at hat hats ⊢
         replace han:=hjd han
         have hatT:(an < M0.length + 8)=True:=eq_true hat
         have hatI:((an:Int) < (M0.length:Int) + 8)=True:=eq_true (by omega)
         go_wp2_with fail
         have xrow:=hjd (show Blk (wr.alloc (.cells Z15 67)) wr.heap.size 67 ((fam 64 (rdX (fun j=>pm.getD (an + j) 0) 0 0)).map N64).toArray from by
          have e:fam 64 (rdX (fun j=>pm.getD (an + j) 0) 0 0)=fam 64 (fun _=>0):=a4x 64 fun i hi=>by unfold rdX;rw [if_neg (by omega)];split <;> rfl
          rw [e,←hZ15.out];exact Blk.new _ _ _)
         have hrow2:=hjd (hrow.out.kept ((Kept.refl [] wr).alloc (.cells Z15 67)) (by simp))
         have H12:=hjd (H11.out.a0g ((Kept.refl [] wr).alloc (.cells Z15 67)))
         have l15:=hjd (show wn.heap.size≤wr.heap.size from H11.out.kept.size)
         have n15:=hjd (show g12≠wr.heap.size from fun e=>by have:=hrow.out.lt;omega)
         clear hrow H11
         generalize wr.alloc (.cells Z15 67)=u15 at *
         generalize wr.heap.size=g15 at *
         generalize hp:(fun j=>pm.getD (an + j) 0)=p at *
         have hpj:=hjd (show∀j,pm.getD (an + j) 0=p j from fun j=>by rw [←hp])
         replace hp:=hjd hp
         go_loopg [16] 16 (fun fu o wk=>∃t:Nat,t≤16∧fu + t=16∧o= .int .i64 (t:Int)∧Hid (Blk wk g15 67 ((fam 64 (rdX p t 0)).map N64).toArray)∧Hid (Blk wk g12 67 ((fam 8 (fun i=>(a5f pm n i).toNat)).map N64).toArray)∧Hid (New wn wk (.slice (some ⟨bm,om,none⟩) (M0.length + 8) c3) pm))
         case atStart=>exact⟨0,by omega,by omega,rfl,xrow,hrow2,H12⟩
         case round=>
          clear xrow hrow2 H12
          obtain⟨t,ht5,hfu5,rfl,xrow,hrow2,H12⟩:=hrel
          by_cases hlt5:t < 16
          ·as_aux_lemma=>--<
           have hlt5T:((t:Int) < 16)=True:=eq_true (by omega)
           go_wp2_with fail
           go_loopg [17] 4 (fun fu o wk=>∃k:Nat,k≤4∧fu + k=4∧o= .int .i64 (k:Int)∧Hid (Blk wk g15 67 ((fam 64 (rdX p t k)).map N64).toArray)∧Hid (Blk wk g12 67 ((fam 8 (fun i=>(a5f pm n i).toNat)).map N64).toArray)∧Hid (New wn wk (.slice (some ⟨bm,om,none⟩) (M0.length + 8) c3) pm))
           case atStart=>exact⟨0,by omega,by omega,rfl,xrow,hrow2,H12⟩
           case round=>
            clear xrow hrow2 H12
            obtain⟨k,hk6,hfu6,rfl,xrow,hrow2,H12⟩:=hrel
            by_cases hlt6:k < 4
            ·have hi0:an + 4 * t + k < pm.length:=by rw [hpl.out];have:=han.out;have:=hM8.out;omega
             have cm1:=cellm.out _ H12.out _ hi0
             have epj:=hpj.out (4 * t + k)
             rw [←Nat.add_assoc]at epj
             rw [epj]at cm1
             have eidx:(an:Int) + (t:Int) * 4 + (k:Int)=((an + 4 * t + k:Nat):Int):=by omega
             have hil:an + 4 * t + k < M0.length + 8:=by rw [←hpl.out];exact hi0
             have hx:=rdX_at p t k
             have hxv:=xrow.out.a6j t (show t < 64 by omega)
             rw [hx]at hxv
             have fx:=xrow.out.frozen t
             have hwl:=wp_lt p t k
             have hw3:wp p t k≤16777215:=by
              have:256 ^ k≤256 ^ 3:=Nat.pow_le_pow_right (by decide) (by omega)
              omega
             obtain⟨w1,hw1⟩:∃x,x=wp p t (k + 1):=⟨_,rfl⟩
             have hw2:(wp p t k:Int) * 256 + ((p (4 * t + k)).toNat:Int)=(w1:Int):=by rw [hw1];simp only [wp];omega
             have hset:=hjd (e4g p t k)
             have hb8:=UInt8.toNat_lt (p (4 * t + k))
             generalize wp p t k=w0' at *
             generalize (p (4 * t + k)).toNat=bt at *
             replace hw1:=hjd hw1
             replace hx:=hjd hx
             clear hi0 epj hwl
             generalize an + 4 * t + k=i0 at *
             go_wp2_with fail
             refine Txt.a6m [] (fun _=>True) [_,_,_,_,_,_,_,_,_,_,_,_,_,_,_,_,_,_,_,_] _ rfl [[_,_,_,_,_,_,_,_,_,_,_,_,_,_,_,_,_,_,_,_]] (by kernel_rfl) (by kernel_rfl) (by kernel_rfl) rfl trivial (Txt.a0f ?_)
             go_wp2_with fail
             refine⟨rfl,trivial,Txt.a1d ⟨⟨by kernel_rfl,fun j hj=>absurd hj (by simp)⟩,?_⟩⟩
             go_wp2_with fail
             go_roundg (4 - (k + 1))
             case measure=>omega
             case rel=>
              refine⟨k + 1,by omega,by omega,by go_num,hjd ?_,hjd ?_,hjd ?_⟩
              ·have:=(xrow.out.e1z t w1).drew
               rw [show(fun j=>if j=t then w1 else rdX p t k j)=rdX p t (k + 1)from by rw [hw1.out];exact hset.out]at this
               exact this
              ·exact(hrow2.out.far n15.out _).drew
              ·exact(H12.out.b9u (H12.out.ow.a4n xrow.out (by decide)) l15.out _).a0g (Kept.refl [] _).drew
            ·obtain rfl:k=4:=by omega
             rw [d8e]at xrow
             go_wp2_with fail
             go_roundg (16 - (t + 1))
             case measure=>omega
             case rel=>exact⟨t + 1,by omega,by omega,by go_num,xrow,hrow2,H12⟩
          ·obtain rfl:t=16:=by omega
           rw [e5i]at xrow
           have BN3:=hjd (BN2.out.kept ((Kept.refl [] _).a0g (Kept.refl [] _)) (by simp))
           go_wp2_with fail
           go_loopg [18] 48 (fun fu o wk=>∃t:Nat,16≤t∧t≤64∧fu + t=64∧o= .int .i64 (t:Int)∧Hid (Blk wk g15 67 ((fam 64 (mix (fun _=>0) (fun i=>(sch p i).toNat) t)).map N64).toArray)∧Hid (Blk wk g12 67 ((fam 8 (fun i=>(a5f pm n i).toNat)).map N64).toArray)∧Hid (New wn wk (.slice (some ⟨bm,om,none⟩) (M0.length + 8) c3) pm))
           case atStart=>exact⟨16,by omega,by omega,by omega,rfl,xrow,hrow2,H12⟩
           case round=>
            clear xrow hrow2 H12 BN3
            obtain⟨t,ht16,ht7,hfu7,rfl,xrow,hrow2,H12⟩:=hrel
            by_cases hlt7:t < 64
            ·as_aux_lemma=>--<
             have e15:(t:Int) - 15=((t - 15:Nat):Int):=by omega
             have e2:(t:Int) - 2=((t - 2:Nat):Int):=by omega
             have e7:(t:Int) - 7=((t - 7:Nat):Int):=by omega
             have e16:(t:Int) - 16=((t - 16:Nat):Int):=by omega
             have hs:=c0z p (t:=t) (by omega)
             have l15':t - 15 < t∧t - 15 < 64:=by omega
             have l2':t - 2 < t∧t - 2 < 64:=by omega
             have l7':t - 7 < t∧t - 7 < 64:=by omega
             have l16':t - 16 < t∧t - 16 < 64:=by omega
             generalize t - 15=a15 at *
             generalize t - 2=a2 at *
             generalize t - 7=a7 at *
             generalize t - 16=a16 at *
             have cellx:=hjd (fun(u:World) (h:Blk u g15 67 ((fam 64 (mix (fun _=>0) (fun i=>(sch p i).toNat) t)).map N64).toArray) (j:Nat) (hj:j < t)=>(show u.cell? ⟨g15,j,none⟩=some (U32 (sch p j))from by rw [h.a6j j (by omega),b5p _ _ hj]))
             have gnlt:gn < wn.heap.size:=BN.out.lt
             have celln:=hjd (fun(u:World) (h:New wn u (.slice (some ⟨bm,om,none⟩) (M0.length + 8) c3) pm)=>(show Blk u gn 25 (uv nL).toArray from BN.out.kept h.kept (by simp)))
             have c2:=cellx.out _ xrow.out _ l2'.1
             have k15:=l15'.2
             have k2:=l2'.2
             have k7:=l7'.2
             have k16:=l16'.2
             have n9':wr.cell? ⟨gn,9,none⟩=some (.int .u64 17):=by rw [(celln.out _ H12.out).cell];rfl
             have n10:wr.cell? ⟨gn,10,none⟩=some (.int .u64 19):=by rw [(celln.out _ H12.out).cell];rfl
             have n11:wr.cell? ⟨gn,11,none⟩=some (.int .u64 10):=by rw [(celln.out _ H12.out).cell];rfl
             replace l15':=hjd l15'
             replace l2':=hjd l2'
             replace l7':=hjd l7'
             replace l16':=hjd l16'
             replace hs:=hjd hs
             have ct1:=hjd (fun u=>(show Calls Tryz.prog 135 #[U32 (sch p a2),.int .u64 32,.int .u64 17,.int .u64 19,.int .u64 10,.bool true] u _ from b5f (sch p a2) 17 19 10 (by decide) (by decide) (by decide) (by decide) (by decide) (by decide) u))
             have ct2:=hjd (fun u=>(show Calls Tryz.prog 135 #[U32 (sch p a15),.int .u64 32,.int .u64 7,.int .u64 18,.int .u64 3,.bool true] u _ from b5f (sch p a15) 7 18 3 (by decide) (by decide) (by decide) (by decide) (by decide) (by decide) u))
             have sum4:=hjd (show∀x y z v:BitVec 32,(x.toNat + y.toNat + z.toNat + v.toNat) % 4294967296=(x + y + z + v).toNat from fun x y z v=>by
              rw [BitVec.toNat_add,BitVec.toNat_add,BitVec.toNat_add];omega)
             have b1:=(ls1 (sch p a2)).isLt
             have b2:=(sch p a7).isLt
             have b3:=(ls0 (sch p a15)).isLt
             have b4:=(sch p a16).isLt
             have hsum:=hjd (show((ls1 (sch p a2)).toNat + (sch p a7).toNat + (ls0 (sch p a15)).toNat + (sch p a16).toNat) % 4294967296=(sch p t).toNat from by rw [sum4.out,hs.out])
             have cl7:=hjd (fun(u:World) (h:Blk u g15 67 ((fam 64 (mix (fun _=>0) (fun i=>(sch p i).toNat) t)).map N64).toArray)=>(show u.cell? ⟨g15,a7,none⟩=some (N64 (sch p a7).toNat)from cellx.out u h _ l7'.out.1))
             have cl16:=hjd (fun(u:World) (h:Blk u g15 67 ((fam 64 (mix (fun _=>0) (fun i=>(sch p i).toNat) t)).map N64).toArray)=>(show u.cell? ⟨g15,a16,none⟩=some (N64 (sch p a16).toNat)from cellx.out u h _ l16'.out.1))
             have ct1':=hjd (fun u=>(show Calls Tryz.prog 135 #[U32 (sch p a2),.int .u64 32,.int .u64 17,.int .u64 19,.int .u64 10,.bool true] u fun e w'=>e= .returned (N64 (ls1 (sch p a2)).toNat)∧Kept [] u w' from ct1.out u))
             have ct2':=hjd (fun u=>(show Calls Tryz.prog 135 #[U32 (sch p a15),.int .u64 32,.int .u64 7,.int .u64 18,.int .u64 3,.bool true] u fun e w'=>e= .returned (N64 (ls0 (sch p a15)).toNat)∧Kept [] u w' from ct2.out u))
             clear ct1 ct2 sum4 hs
             generalize (ls1 (sch p a2)).toNat=v1 at *
             generalize (sch p a7).toNat=v2 at *
             generalize (ls0 (sch p a15)).toNat=v3 at *
             generalize (sch p a16).toNat=v4 at *
             have ccut:=hjd (fun u=>(show Calls Tryz.prog 134 #[.int .u64 ((v1:Int) + (v2:Int) + (v3:Int) + (v4:Int)),.int .u64 32] u fun e w'=>e= .returned (N64 ((v1 + v2 + v3 + v4) % 4294967296))∧Kept [] u w' from b5b (v1 + v2 + v3 + v4) u))
             go_wp2_with fail
             replace xrow:=hjd xrow.out.drew
             replace hrow2:=hjd hrow2.out.drew
             replace H12:=hjd (H12.out.a0g (Kept.refl [] _).drew)
             refine Txt.a6m [6,10,13,16,22,28,32,35,38,45] (fun u=>Blk u g15 67 ((fam 64 (mix (fun _=>0) (fun i=>(sch p i).toNat) t)).map N64).toArray∧Blk u gn 25 (uv nL).toArray) [_,_,_,_,_,_,_,_,_,_,_,_,_,_,_,_,_,_,_,_,_,_,_,_,_,_,_,_,_,_,_,_,_,_,_,_,_,_,_,_,_,_,_,_,_,_,_,_,_,_] _ rfl [[_,_,_,_,_,_,_,_,_,_,_,_,_,_,_,_,_,_],[_,_,_,_,_,_,_,_,_,_,_,_,_,_,_,_,_,_,_,_,_,_],[_,_,_,_,_,_,_,_,_],[_]] (by kernel_rfl) (by kernel_rfl) (by kernel_rfl) rfl ⟨xrow.out,celln.out _ H12.out⟩ (Txt.a0f ?_)
             go_wp2_with (first
              | (go_at_call 135;(with_reducible refine(ct1'.out _).mono ?_);rintro e w20 ⟨rfl,k20⟩
                 replace xrow:=hjd (xrow.out.kept k20 (by simp))
                 replace hrow2:=hjd (hrow2.out.kept k20 (by simp))
                 replace H12:=hjd (H12.out.a0g k20)
                 clear k20 c2 n9' n10 n11))
             refine⟨rfl,⟨xrow.out,celln.out _ H12.out⟩,Txt.a0f ?_⟩
             have c7':=cl7.out _ xrow.out
             have c15':=cellx.out _ xrow.out _ l15'.out.1
             have n6:w20.cell? ⟨gn,6,none⟩=some (.int .u64 7):=by rw [(celln.out _ H12.out).cell];rfl
             have n7:w20.cell? ⟨gn,7,none⟩=some (.int .u64 18):=by rw [(celln.out _ H12.out).cell];rfl
             have n8:w20.cell? ⟨gn,8,none⟩=some (.int .u64 3):=by rw [(celln.out _ H12.out).cell];rfl
             go_wp2_with (first
              | (go_at_call 135;(with_reducible refine(ct2'.out _).mono ?_);rintro e w21 ⟨rfl,k21⟩
                 replace xrow:=hjd (xrow.out.kept k21 (by simp))
                 replace hrow2:=hjd (hrow2.out.kept k21 (by simp))
                 replace H12:=hjd (H12.out.a0g k21)
                 clear k21 c7' c15' n6 n7 n8))
             refine⟨rfl,⟨xrow.out,celln.out _ H12.out⟩,Txt.a0f ?_⟩
             have c16':=cl16.out _ xrow.out
             go_wp2_with (first
              | (go_at_call 134;(with_reducible refine(ccut.out _).mono ?_);rintro e w22 ⟨rfl,k22⟩
                 replace xrow:=hjd (xrow.out.kept k22 (by simp))
                 replace hrow2:=hjd (hrow2.out.kept k22 (by simp))
                 replace H12:=hjd (H12.out.a0g k22)
                 clear k22 c16'))
             refine⟨rfl,⟨xrow.out,celln.out _ H12.out⟩,Txt.a0f ?_⟩
             go_wp2_with fail
             refine⟨rfl,⟨xrow.out,celln.out _ H12.out⟩,Txt.a1d ⟨⟨by kernel_rfl,?_⟩,?_⟩⟩
             ·intro j hj o ho hw
              have hj2:j=6∨j=10∨j=13∨j=16∨j=22∨j=28∨j=32∨j=35∨j=38∨j=45:=by simpa using hj
              rcases hj2 with rfl | rfl | rfl | rfl | rfl | rfl | rfl | rfl | rfl | rfl <;> cases ho
              ·exact⟨_,rfl,fun u hu=>a0x (.tmp 144) rfl a7n rfl (cellx.out u hu.1 _ l2'.out.1)⟩
              ·exact⟨_,rfl,fun u hu=>a0x (.tmp 148) rfl b3h rfl (by rw [hu.2.cell];rfl)⟩
              ·exact⟨_,rfl,fun u hu=>a0x (.tmp 151) rfl b3h rfl (by rw [hu.2.cell];rfl)⟩
              ·exact⟨_,rfl,fun u hu=>a0x (.tmp 154) rfl b3h rfl (by rw [hu.2.cell];rfl)⟩
              ·exact⟨_,rfl,fun u hu=>a0x (.tmp 160) rfl a7n rfl (cl7.out u hu.1)⟩
              ·exact⟨_,rfl,fun u hu=>a0x (.tmp 166) rfl a7n rfl (cellx.out u hu.1 _ l15'.out.1)⟩
              ·exact⟨_,rfl,fun u hu=>a0x (.tmp 170) rfl b3h rfl (by rw [hu.2.cell];rfl)⟩
              ·exact⟨_,rfl,fun u hu=>a0x (.tmp 173) rfl b3h rfl (by rw [hu.2.cell];rfl)⟩
              ·exact⟨_,rfl,fun u hu=>a0x (.tmp 176) rfl b3h rfl (by rw [hu.2.cell];rfl)⟩
              ·exact⟨_,rfl,fun u hu=>a0x (.tmp 183) rfl a7n rfl (cl16.out u hu.1)⟩
             obtain⟨yx,hyx⟩:∃y,w22.cell? ⟨g15,t,none⟩=some y:=⟨_,xrow.out.a6j t hlt7⟩
             have fx:=xrow.out.frozen t
             rw [hsum.out]
             go_wp2_with fail
             go_roundg (64 - (t + 1))
             case measure=>omega
             case rel=>exact⟨t + 1,by omega,by omega,by omega,by go_num,hjd xrow.out.a7v,hjd (hrow2.out.far n15.out _),hjd (H12.out.b9u (H12.out.ow.a4n xrow.out (by decide)) l15.out _)⟩
            ·obtain rfl:t=64:=by omega
             rw [a3f]at xrow
             have hrd:=hjd (hrow2.out.rd (n:=8) (c:=8) (by simp [fam]) (Nat.le_refl _))
             have hsz:=hjd (And.intro hrow2.out.lt xrow.out.lt)
             go_wp2_with (first
              | (at_builtin
                 refine a1v c2b rfl (.tmp 189) (.tmp 190) rfl rfl (xs:=[]) (n:=0) (Ow.b7k (a6o (by simp) rfl rfl (by omega))) rfl (hrd.out.alloc _) (d4y _) (by omega) (by omega) ?_
                 intro v' w30 o30 k30 f30
                 rw [Nat.zero_add]at o30
                 have k31:Kept (Value.slice (some ⟨wr.heap.size,0,none⟩) 0 0).ownBlock.toList (wr.alloc (.cells #[] 67)) w30:=k30
                 have k32:Kept [] wr w30:=Kept.fresh ((Kept.refl [] wr).alloc _) k31 (by simp [Value.ownBlock])
                 have f31:v'.ownBlock=(Value.slice (some ⟨wr.heap.size,0,none⟩) 0 0).ownBlock∨v'.ownBlock=some (wr.alloc (.cells #[] 67)).heap.size:=f30
                 obtain⟨gv,ov,cv,hv',hcv,hcell⟩:=(Rd.a6u o30).at_ (by decide)
                 subst hv'
                 have hgv:=hjd (show wr.heap.size≤gv from by
                  rcases f31 with e | e
                  ·have:gv=wr.heap.size:=by simpa [Value.ownBlock]using e
                   omega
                  ·have:gv=(wr.alloc (.cells #[] 67)).heap.size:=by simpa [Value.ownBlock]using e
                   rw [this];simp)
                 have vrow:=hjd (show VR w30 gv ov (a5c p (a5f pm n) 0)from fun j hj=>hcell j _ (by simp [fam,a5c,hj]))
                 replace xrow:=hjd (xrow.out.kept k32 (by simp))
                 replace hrow2:=hjd (hrow2.out.kept k32 (by simp))
                 replace H12:=hjd (H12.out.a0g k32)
                 clear o30 k30 f30 k31 k32 f31 hcell hrd))
             have ngv:=hjd (show gv≠g12 from fun e=>by have:=hgv.out;have:=hsz.out.1;omega)
             go_loopg [19,20] 64 (fun fu o i wk=>∃(t g o2 c:Nat),t≤64∧fu + t=64∧i= .int .i64 (t:Int)∧o= .slice (some ⟨g,o2,none⟩) 8 c∧Hid (VR wk g o2 (a5c p (a5f pm n) t))∧Hid (g≠g12)∧Hid (Blk wk g15 67 ((fam 64 (fun i=>(sch p i).toNat)).map N64).toArray)∧Hid (Blk wk g12 67 ((fam 8 (fun i=>(a5f pm n i).toNat)).map N64).toArray)∧Hid (New wn wk (.slice (some ⟨bm,om,none⟩) (M0.length + 8) c3) pm))
             case atStart=>exact⟨0,gv,ov,cv,by omega,by omega,rfl,rfl,vrow,ngv,xrow,hrow2,H12⟩
             case round=>
              clear vrow ngv xrow hrow2 H12
              obtain⟨t,g,o2,cv,ht8,hfu8,rfl,rfl,vrow,ngv,xrow,hrow2,H12⟩:=hrel
              by_cases hlt8:t < 64
              ·as_aux_lemma=>--<
               go_wp2_with fail
               have hcb:=hjd (d8k t (by omega))
               have hkb:=hi_lt _ (b8h t (by omega))
               have hrt:=hjd (show a5c p (a5f pm n) (t + 1)=rnd (b3p (a1z.getD t 0)) (sch p t) (a5c p (a5f pm n) t)from rfl)
               have hxt:=hjd (fun(u:World) (h:Blk u g15 67 ((fam 64 (fun i=>(sch p i).toNat)).map N64).toArray)=>(show u.cell? ⟨g15,t,none⟩=some (N64 (sch p t).toNat)from h.a6j t hlt8))
               generalize a5c p (a5f pm n) t=v at *
               generalize a1z.getD t 0=kb at *
               obtain⟨z0,z4,hz0,hz4,hrows⟩:=d9w (b3p kb) (sch p t) v
               replace hrows:=hjd hrows
               have gnlt:gn < wn.heap.size:=BN.out.lt
               have celln:=hjd (fun(u:World) (h:New wn u (.slice (some ⟨bm,om,none⟩) (M0.length + 8) c3) pm)=>(show Blk u gn 25 (uv nL).toArray from BN.out.kept h.kept (by simp)))
               have ct1:=hjd (fun u=>(show Calls Tryz.prog 135 #[N64 (v 4).toNat,.int .u64 32,.int .u64 6,.int .u64 11,.int .u64 25,.bool false] u fun e w'=>e= .returned (N64 (us1 (v 4)).toNat)∧Kept [] u w' from b6m (v 4) 6 11 25 (by decide) (by decide) (by decide) (by decide) (by decide) (by decide) u))
               have ct2:=hjd (fun u=>(show Calls Tryz.prog 135 #[N64 (v 0).toNat,.int .u64 32,.int .u64 2,.int .u64 13,.int .u64 22,.bool false] u fun e w'=>e= .returned (N64 (us0 (v 0)).toNat)∧Kept [] u w' from b6m (v 0) 2 13 22 (by decide) (by decide) (by decide) (by decide) (by decide) (by decide) u))
               obtain⟨nn,hnn,hnm⟩:=unot (v 4)
               have hch:=ch_val (v 4) (v 5) (v 6)
               have hmj:=mj_val (v 0) (v 1) (v 2)
               have ccn:=hjd (fun u=>(show Calls Tryz.prog 134 #[.int .u64 (nn:Int),.int .u64 32] u fun e w'=>e= .returned (N64 (~~~(v 4)).toNat)∧Kept [] u w' from by rw [←hnm];exact b5b nn u))
               have ba0:=(v 0).isLt
               have ba1:=(v 1).isLt
               have ba2:=(v 2).isLt
               have ba3:=(v 3).isLt
               have ba4:=(v 4).isLt
               have ba5:=(v 5).isLt
               have ba6:=(v 6).isLt
               have ba7:=(v 7).isLt
               have bs1:=(us1 (v 4)).isLt
               have bs0:=(us0 (v 0)).isLt
               have bch:=(chB (v 4) (v 5) (v 6)).isLt
               have bmj:=(mjB (v 0) (v 1) (v 2)).isLt
               have bk:=(b3p kb).isLt
               have bx:=(sch p t).isLt
               replace vrow:=hjd (VC.of vrow.out)
               clear hnm
               generalize (v 0).toNat=a0 at *
               generalize (v 1).toNat=a1 at *
               generalize (v 2).toNat=a2 at *
               generalize (v 3).toNat=a3 at *
               generalize (v 4).toNat=a4 at *
               generalize (v 5).toNat=a5 at *
               generalize (v 6).toNat=a6 at *
               generalize (v 7).toNat=a7 at *
               generalize (us1 (v 4)).toNat=s1 at *
               generalize (us0 (v 0)).toNat=s0 at *
               generalize (chB (v 4) (v 5) (v 6)).toNat=cn at *
               generalize (mjB (v 0) (v 1) (v 2)).toNat=mn at *
               generalize (b3p kb).toNat=kn at *
               generalize (sch p t).toNat=xn at *
               generalize (~~~(v 4)).toNat=nm at *
               have hz0':=hjd hz0
               have hz4':=hjd hz4
               clear hz0 hz4
               obtain⟨T1,hT1⟩:∃x,x=a7 + s1 + cn + kn + xn:=⟨_,rfl⟩
               obtain⟨T2,hT2⟩:∃x,x=s0 + mn:=⟨_,rfl⟩
               have eT1:=hjd (show(a7:Int) + s1 + cn + kn + xn=(T1:Int)from by rw [hT1];simp only [Int.natCast_add])
               have eT2:=hjd (show(s0:Int) + mn=(T2:Int)from by rw [hT2];simp only [Int.natCast_add])
               have cc0:=hjd (fun u=>(show Calls Tryz.prog 134 #[.int .u64 ((T1:Int) + (T2:Int)),.int .u64 32] u fun e w'=>e= .returned (N64 z0)∧Kept [] u w' from by rw [hz0'.out,←hT1,←hT2];exact b5b (T1 + T2) u))
               have cc4:=hjd (fun u=>(show Calls Tryz.prog 134 #[.int .u64 ((a3:Int) + (T1:Int)),.int .u64 32] u fun e w'=>e= .returned (N64 z4)∧Kept [] u w' from by rw [hz4'.out,←hT1];exact b5b (a3 + T1) u))
               have bT1:=hjd (show T1 < 30000000000 from by rw [hT1];omega)
               have bT2:=hjd (show T2 < 30000000000 from by rw [hT2];omega)
               clear hT1 hT2
               clear hz0' hz4'
               replace hnn:=hjd hnn
               replace hch:=hjd hch
               replace hmj:=hjd hmj
               replace hkb:=hjd hkb
               have BD1:=hjd (show a7 < 4294967296∧s1 < 4294967296∧cn < 4294967296∧kn < 4294967296∧xn < 4294967296 from⟨ba7,bs1,bch,bk,bx⟩)
               have BD2:=hjd (show s0 < 4294967296∧mn < 4294967296 from⟨bs0,bmj⟩)
               have BD3:=hjd (show a3 < 4294967296 from ba3)
               clear ba0 ba1 ba2 ba3 ba4 ba5 ba6 ba7 bs1 bs0 bch bmj bk bx
               replace vrow:=hjd (vrow.out.a0o (Kept.refl [] _).drew)
               replace xrow:=hjd xrow.out.drew
               replace hrow2:=hjd hrow2.out.drew
               replace H12:=hjd (H12.out.a0g (Kept.refl [] _).drew)
               refine Txt.a1o [2,5,9,15] (fun u=>VC u g o2 a0 a1 a2 a3 a4 a5 a6 a7∧Blk u gn 25 (uv nL).toArray∧Blk u g15 67 ((fam 64 (fun i=>(sch p i).toNat)).map N64).toArray) [[_,_,_,_,_,_,_,_,_,_,_,_,_],[_,_,_,_,_,_]] (by kernel_rfl) (by kernel_rfl) rfl ⟨vrow.out,celln.out _ H12.out,xrow.out⟩ (Txt.a0f ?_)
               have hnn':=hnn.out
               obtain⟨vc0,vc1,vc2,vc3,vc4,vc5,vc6,vc7⟩:=vrow.out
               clear vc0 vc1 vc2 vc3 vc6 vc7
               go_wp2_with (first
                | (go_at_call 134;(with_reducible refine(ccn.out _).mono ?_);rintro e w31 ⟨rfl,kk⟩
                   replace vrow:=hjd (vrow.out.a0o kk)
                   replace xrow:=hjd (xrow.out.kept kk (by simp))
                   replace hrow2:=hjd (hrow2.out.kept kk (by simp))
                   replace H12:=hjd (H12.out.a0g kk)
                   clear kk vc4 vc5))
               clear hnn'
               refine⟨rfl,⟨vrow.out,celln.out _ H12.out,xrow.out⟩,Txt.a0f ?_⟩
               obtain⟨vc0,vc1,vc2,vc3,vc4,vc5,vc6,vc7⟩:=vrow.out
               clear vc0 vc1 vc2 vc3 vc4 vc5 vc7
               go_wp2_with fail
               refine⟨rfl,⟨vrow.out,celln.out _ H12.out,xrow.out⟩,Txt.a1d ⟨⟨by kernel_rfl,?_⟩,?_⟩⟩
               ·intro j hj o ho hw
                have hj2:j=2∨j=5∨j=9∨j=15:=by simpa using hj
                rcases hj2 with rfl | rfl | rfl | rfl <;> cases ho
                ·exact⟨_,rfl,fun u hu=>a0x (.tmp 198) rfl a7n rfl hu.1.2.2.2.2.1⟩
                ·exact⟨_,rfl,fun u hu=>a0x (.tmp 201) rfl a7n rfl hu.1.2.2.2.2.2.1⟩
                ·exact⟨_,rfl,fun u hu=>a0x (.tmp 205) rfl a7n rfl hu.1.2.2.2.2.1⟩
                ·exact⟨_,rfl,fun u hu=>a0x (.tmp 211) rfl a7n rfl hu.1.2.2.2.2.2.2.1⟩
               rw [hch.out]
               clear hch hnn vc6 ccn
               go_wp2_with fail
               replace vrow:=hjd (vrow.out.a0o (Kept.refl [] _).drew)
               replace xrow:=hjd xrow.out.drew
               replace hrow2:=hjd hrow2.out.drew
               replace H12:=hjd (H12.out.a0g (Kept.refl [] _).drew)
               refine Txt.a1o [2,5,9,12,17,20] (fun u=>VC u g o2 a0 a1 a2 a3 a4 a5 a6 a7∧Blk u gn 25 (uv nL).toArray∧Blk u g15 67 ((fam 64 (fun i=>(sch p i).toNat)).map N64).toArray) [[_,_,_,_,_,_,_,_,_,_,_,_,_,_,_,_,_,_,_,_,_,_,_,_]] (by kernel_rfl) (by kernel_rfl) rfl ⟨vrow.out,celln.out _ H12.out,xrow.out⟩ (Txt.a0f ?_)
               obtain⟨vc0,vc1,vc2,vc3,vc4,vc5,vc6,vc7⟩:=vrow.out
               clear vc3 vc4 vc5 vc6 vc7
               go_wp2_with fail
               refine⟨rfl,⟨vrow.out,celln.out _ H12.out,xrow.out⟩,Txt.a1d ⟨⟨by kernel_rfl,?_⟩,?_⟩⟩
               ·intro j hj o ho hw
                have hj2:j=2∨j=5∨j=9∨j=12∨j=17∨j=20:=by simpa using hj
                rcases hj2 with rfl | rfl | rfl | rfl | rfl | rfl <;> cases ho
                ·exact⟨_,rfl,fun u hu=>a0x (.tmp 216) rfl a7n rfl hu.1.1⟩
                ·exact⟨_,rfl,fun u hu=>a0x (.tmp 219) rfl a7n rfl hu.1.2.1⟩
                ·exact⟨_,rfl,fun u hu=>a0x (.tmp 223) rfl a7n rfl hu.1.1⟩
                ·exact⟨_,rfl,fun u hu=>a0x (.tmp 226) rfl a7n rfl hu.1.2.2.1⟩
                ·exact⟨_,rfl,fun u hu=>a0x (.tmp 231) rfl a7n rfl hu.1.2.1⟩
                ·exact⟨_,rfl,fun u hu=>a0x (.tmp 234) rfl a7n rfl hu.1.2.2.1⟩
               rw [hmj.out]
               clear hmj vc0 vc1 vc2
               go_wp2_with fail
               replace vrow:=hjd (vrow.out.a0o (Kept.refl [] _).drew)
               replace xrow:=hjd xrow.out.drew
               replace hrow2:=hjd hrow2.out.drew
               replace H12:=hjd (H12.out.a0g (Kept.refl [] _).drew)
               refine Txt.a1o [2,5,9,12,15,29] (fun u=>VC u g o2 a0 a1 a2 a3 a4 a5 a6 a7∧Blk u gn 25 (uv nL).toArray∧Blk u g15 67 ((fam 64 (fun i=>(sch p i).toNat)).map N64).toArray) [[_,_,_,_,_,_,_,_,_,_,_,_,_,_,_,_,_],[_,_,_,_,_],[_,_,_,_,_,_,_,_,_,_]] (by kernel_rfl) (by kernel_rfl) rfl ⟨vrow.out,celln.out _ H12.out,xrow.out⟩ (Txt.a0f ?_)
               obtain⟨vc0,vc1,vc2,vc3,vc4,vc5,vc6,vc7⟩:=vrow.out
               clear vc0 vc1 vc2 vc3 vc5 vc6
               obtain⟨ba7,bs1,bch,bk,bx⟩:=BD1.out
               have hkb1:=hkb.out
               have n3:=(celln.out _ H12.out).cell 3
               rw [show(uv nL).toArray[3]?=some (.int .u64 6)from rfl]at n3
               have n4:=(celln.out _ H12.out).cell 4
               rw [show(uv nL).toArray[4]?=some (.int .u64 11)from rfl]at n4
               have n5:=(celln.out _ H12.out).cell 5
               rw [show(uv nL).toArray[5]?=some (.int .u64 25)from rfl]at n5
               go_wp2_with (first
                | (go_at_call 135;(with_reducible refine(ct1.out _).mono ?_);rintro e w32 ⟨rfl,kk⟩
                   replace vrow:=hjd (vrow.out.a0o kk)
                   replace xrow:=hjd (xrow.out.kept kk (by simp))
                   replace hrow2:=hjd (hrow2.out.kept kk (by simp))
                   replace H12:=hjd (H12.out.a0g kk)
                   clear kk vc4 vc7 n3 n4 n5))
               refine⟨rfl,⟨vrow.out,celln.out _ H12.out,xrow.out⟩,Txt.a0f ?_⟩
               go_wp2_with (first
                | (go_at_call 136;(with_reducible refine(hcb.out _).mono ?_);rintro e w33 ⟨rfl,kk⟩
                   replace vrow:=hjd (vrow.out.a0o kk)
                   replace xrow:=hjd (xrow.out.kept kk (by simp))
                   replace hrow2:=hjd (hrow2.out.kept kk (by simp))
                   replace H12:=hjd (H12.out.a0g kk)
                   clear kk))
               refine⟨rfl,⟨vrow.out,celln.out _ H12.out,xrow.out⟩,Txt.a0f ?_⟩
               have qx:=hxt.out _ xrow.out
               go_wp2_with fail
               refine⟨rfl,⟨vrow.out,celln.out _ H12.out,xrow.out⟩,Txt.a1d ⟨⟨by kernel_rfl,?_⟩,?_⟩⟩
               ·intro j hj o ho hw
                have hj2:j=2∨j=5∨j=9∨j=12∨j=15∨j=29:=by simpa using hj
                rcases hj2 with rfl | rfl | rfl | rfl | rfl | rfl <;> cases ho
                ·exact⟨_,rfl,fun u hu=>a0x (.tmp 239) rfl a7n rfl hu.1.2.2.2.2.2.2.2⟩
                ·exact⟨_,rfl,fun u hu=>a0x (.tmp 242) rfl a7n rfl hu.1.2.2.2.2.1⟩
                ·exact⟨_,rfl,fun u hu=>a0x (.tmp 246) rfl b3h rfl (by rw [hu.2.1.cell];rfl)⟩
                ·exact⟨_,rfl,fun u hu=>a0x (.tmp 249) rfl b3h rfl (by rw [hu.2.1.cell];rfl)⟩
                ·exact⟨_,rfl,fun u hu=>a0x (.tmp 252) rfl b3h rfl (by rw [hu.2.1.cell];rfl)⟩
                ·exact⟨_,rfl,fun u hu=>a0x (.tmp 266) rfl a7n rfl (hxt.out u hu.2.2)⟩
               rw [eT1.out]
               clear qx hcb ct1 hkb1 hkb ba7 bs1 bch bk bx BD1 eT1
               go_wp2_with fail
               replace vrow:=hjd (vrow.out.a0o (Kept.refl [] _).drew)
               replace xrow:=hjd xrow.out.drew
               replace hrow2:=hjd hrow2.out.drew
               replace H12:=hjd (H12.out.a0g (Kept.refl [] _).drew)
               refine Txt.a1o [2,6,9,12] (fun u=>VC u g o2 a0 a1 a2 a3 a4 a5 a6 a7∧Blk u gn 25 (uv nL).toArray∧Blk u g15 67 ((fam 64 (fun i=>(sch p i).toNat)).map N64).toArray) [[_,_,_,_,_,_,_,_,_,_,_,_,_,_],[_,_,_]] (by kernel_rfl) (by kernel_rfl) rfl ⟨vrow.out,celln.out _ H12.out,xrow.out⟩ (Txt.a0f ?_)
               obtain⟨vc0,vc1,vc2,vc3,vc4,vc5,vc6,vc7⟩:=vrow.out
               clear vc1 vc2 vc3 vc4 vc5 vc6 vc7
               obtain⟨bs0,bmj⟩:=BD2.out
               have n0:=(celln.out _ H12.out).cell 0
               rw [show(uv nL).toArray[0]?=some (.int .u64 2)from rfl]at n0
               have n1:=(celln.out _ H12.out).cell 1
               rw [show(uv nL).toArray[1]?=some (.int .u64 13)from rfl]at n1
               have n2:=(celln.out _ H12.out).cell 2
               rw [show(uv nL).toArray[2]?=some (.int .u64 22)from rfl]at n2
               go_wp2_with (first
                | (go_at_call 135;(with_reducible refine(ct2.out _).mono ?_);rintro e w34 ⟨rfl,kk⟩
                   replace vrow:=hjd (vrow.out.a0o kk)
                   replace xrow:=hjd (xrow.out.kept kk (by simp))
                   replace hrow2:=hjd (hrow2.out.kept kk (by simp))
                   replace H12:=hjd (H12.out.a0g kk)
                   clear kk vc0 n0 n1 n2))
               refine⟨rfl,⟨vrow.out,celln.out _ H12.out,xrow.out⟩,Txt.a0f ?_⟩
               go_wp2_with fail
               refine⟨rfl,⟨vrow.out,celln.out _ H12.out,xrow.out⟩,Txt.a1d ⟨⟨by kernel_rfl,?_⟩,?_⟩⟩
               ·intro j hj o ho hw
                have hj2:j=2∨j=6∨j=9∨j=12:=by simpa using hj
                rcases hj2 with rfl | rfl | rfl | rfl <;> cases ho
                ·exact⟨_,rfl,fun u hu=>a0x (.tmp 270) rfl a7n rfl hu.1.1⟩
                ·exact⟨_,rfl,fun u hu=>a0x (.tmp 274) rfl b3h rfl (by rw [hu.2.1.cell];rfl)⟩
                ·exact⟨_,rfl,fun u hu=>a0x (.tmp 277) rfl b3h rfl (by rw [hu.2.1.cell];rfl)⟩
                ·exact⟨_,rfl,fun u hu=>a0x (.tmp 280) rfl b3h rfl (by rw [hu.2.1.cell];rfl)⟩
               rw [eT2.out]
               clear ct2 bs0 bmj BD2 eT2
               go_wp2_with fail
               replace vrow:=hjd (vrow.out.a0o (Kept.refl [] _).drew)
               replace xrow:=hjd xrow.out.drew
               replace hrow2:=hjd hrow2.out.drew
               replace H12:=hjd (H12.out.a0g (Kept.refl [] _).drew)
               refine Txt.a1o [7,10,13,16,23,26,29] (fun u=>VC u g o2 a0 a1 a2 a3 a4 a5 a6 a7∧Blk u gn 25 (uv nL).toArray∧Blk u g15 67 ((fam 64 (fun i=>(sch p i).toNat)).map N64).toArray) [[_,_,_,_,_],[_,_,_,_,_,_,_,_,_,_,_,_,_,_,_,_],[_,_,_,_,_,_,_,_,_,_],[_]] (by kernel_rfl) (by kernel_rfl) rfl ⟨vrow.out,celln.out _ H12.out,xrow.out⟩ (Txt.a0f ?_)
               have bT1n:=bT1.out
               have bT2n:=bT2.out
               have ba3:=BD3.out
               go_wp2_with (first
                | (go_at_call 134;(with_reducible refine(cc0.out _).mono ?_);rintro e w35 ⟨rfl,kk⟩
                   replace vrow:=hjd (vrow.out.a0o kk)
                   replace xrow:=hjd (xrow.out.kept kk (by simp))
                   replace hrow2:=hjd (hrow2.out.kept kk (by simp))
                   replace H12:=hjd (H12.out.a0g kk)
                   clear kk))
               refine⟨rfl,⟨vrow.out,celln.out _ H12.out,xrow.out⟩,Txt.a0f ?_⟩
               obtain⟨vc0,vc1,vc2,vc3,vc4,vc5,vc6,vc7⟩:=vrow.out
               clear vc4 vc5 vc6 vc7
               go_wp2_with (first
                | (go_at_call 134;(with_reducible refine(cc4.out _).mono ?_);rintro e w36 ⟨rfl,kk⟩
                   replace vrow:=hjd (vrow.out.a0o kk)
                   replace xrow:=hjd (xrow.out.kept kk (by simp))
                   replace hrow2:=hjd (hrow2.out.kept kk (by simp))
                   replace H12:=hjd (H12.out.a0g kk)
                   clear kk vc0 vc1 vc2 vc3))
               refine⟨rfl,⟨vrow.out,celln.out _ H12.out,xrow.out⟩,Txt.a0f ?_⟩
               obtain⟨vc0,vc1,vc2,vc3,vc4,vc5,vc6,vc7⟩:=vrow.out
               clear vc0 vc1 vc2 vc3 vc7
               clear bT1n bT2n ba3 cc0 cc4
               generalize (T1:Int) + (T2:Int)=y0
               generalize (a3:Int) + (T1:Int)=y4
               go_wp2_with (first
                | ((with_reducible refine a0l 315 ?_);(refine c2z (o:=⟨some 315,_,_,_,_,_⟩) (v0:=N64 z0) (v1:=N64 a0) (v2:=N64 a1) (v3:=N64 a2) (v4:=N64 z4) (v5:=N64 a4) (v6:=N64 a5) (v7:=N64 a6) rfl c2b rfl rfl rfl rfl rfl rfl rfl rfl rfl rfl rfl rfl rfl rfl rfl rfl rfl ?_);intro gv2 wv2 mv2
                   have hvr:=hjd (show VR wv2 gv2 0 (a5c p (a5f pm n) (t + 1))from by rw [hrt.out];exact VC.vr mv2.blk hrows.out)
                   have hgv2:=hjd (show gv2≠g12 from fun e=>by have:=hrow2.out.lt;have:=mv2.le;omega)
                   replace vrow:=hjd (vrow.out.a0o mv2.kept)
                   replace xrow:=hjd (xrow.out.kept mv2.kept (by simp))
                   replace hrow2:=hjd (hrow2.out.kept mv2.kept (by simp))
                   replace H12:=hjd (H12.out.a0g mv2.kept)
                   clear mv2 vc4 vc5 vc6))
               refine⟨rfl,⟨vrow.out,celln.out _ H12.out,xrow.out⟩,Txt.a0f ?_⟩
               go_wp2_with fail
               refine⟨rfl,⟨vrow.out,celln.out _ H12.out,xrow.out⟩,Txt.a1d ⟨⟨by kernel_rfl,?_⟩,?_⟩⟩
               ·intro j hj o ho hw
                have hj2:j=7∨j=10∨j=13∨j=16∨j=23∨j=26∨j=29:=by simpa using hj
                rcases hj2 with rfl | rfl | rfl | rfl | rfl | rfl | rfl <;> cases ho
                ·exact⟨_,rfl,fun u hu=>a0x (.tmp 291) rfl a7n rfl hu.1.1⟩
                ·exact⟨_,rfl,fun u hu=>a0x (.tmp 294) rfl a7n rfl hu.1.2.1⟩
                ·exact⟨_,rfl,fun u hu=>a0x (.tmp 297) rfl a7n rfl hu.1.2.2.1⟩
                ·exact⟨_,rfl,fun u hu=>a0x (.tmp 300) rfl a7n rfl hu.1.2.2.2.1⟩
                ·exact⟨_,rfl,fun u hu=>a0x (.tmp 307) rfl a7n rfl hu.1.2.2.2.2.1⟩
                ·exact⟨_,rfl,fun u hu=>a0x (.tmp 310) rfl a7n rfl hu.1.2.2.2.2.2.1⟩
                ·exact⟨_,rfl,fun u hu=>a0x (.tmp 313) rfl a7n rfl hu.1.2.2.2.2.2.2.1⟩
               go_wp2_with fail
               go_roundg (64 - (t + 1))
               case measure=>omega
               case rel=>exact⟨t + 1,gv2,0,8,by omega,by omega,by go_num,rfl,hvr,hgv2,xrow,hrow2,H12⟩
              ·obtain rfl:t=64:=by omega
               have hA0:=hjd (show Blk wr g12 67 ((fam 8 (mix (fun i=>(a5f pm n i).toNat) (fun i=>(a5f pm n i + a5c p (a5f pm n) 64 i).toNat) 0)).map N64).toArray from by rw [a5w];exact hrow2.out)
               generalize hvv:a5c p (a5f pm n) 64=v at *
               replace hvv:=hjd hvv
               generalize hbn:a5f pm n=hA at *
               replace hbn:=hjd hbn
               clear xrow hrow2
               go_wp2_with fail
               go_loopg [318] 8 (fun fu i wk=>∃k:Nat,k≤8∧fu + k=8∧i= .int .i64 (k:Int)∧Hid (Blk wk g12 67 ((fam 8 (mix (fun i=>(hA i).toNat) (fun i=>(hA i + v i).toNat) k)).map N64).toArray)∧Hid (VR wk g o2 v)∧Hid (New wn wk (.slice (some ⟨bm,om,none⟩) (M0.length + 8) c3) pm))
               case atStart=>exact⟨0,by omega,by omega,rfl,hA0,vrow,H12⟩
               case round=>
                clear hA0 vrow H12
                obtain⟨k,hk9,hfu9,rfl,hA0,vrow,H12⟩:=hrel
                by_cases hlt9:k < 8
                ·as_aux_lemma=>--<
                 go_wp2_with fail
                 replace hA0:=hjd hA0.out.drew
                 replace vrow:=hjd (vrow.out.a0o (Kept.refl [] _).drew)
                 replace H12:=hjd (H12.out.a0g (Kept.refl [] _).drew)
                 have cA:=hjd (fun(u:World) (h:Blk u g12 67 ((fam 8 (mix (fun i=>(hA i).toNat) (fun i=>(hA i + v i).toNat) k)).map N64).toArray)=>(show u.cell? ⟨g12,k,none⟩=some (N64 (hA k).toNat)from by rw [h.a6j k hlt9,b8w _ _ (Nat.le_refl _)]))
                 have cV:=hjd (fun(u:World) (h:VR u g o2 v)=>(show u.cell? ⟨g,o2 + k,none⟩=some (N64 (v k).toNat)from h k hlt9))
                 have hst:=hjd (fun(u:World) (h:Blk u g12 67 ((fam 8 (mix (fun i=>(hA i).toNat) (fun i=>(hA i + v i).toNat) k)).map N64).toArray)=>(show Blk (u.setCell ⟨g12,k,none⟩ (N64 (hA k + v k).toNat)) g12 67 ((fam 8 (mix (fun i=>(hA i).toNat) (fun i=>(hA i + v i).toNat) (k + 1))).map N64).toArray from h.a7v))
                 have hsum:((hA k).toNat + (v k).toNat) % 4294967296=(hA k + v k).toNat:=by rw [BitVec.toNat_add]
                 have ccut:=hjd (fun u=>(show Calls Tryz.prog 134 #[.int .u64 (((hA k).toNat:Int) + ((v k).toNat:Int)),.int .u64 32] u fun e w'=>e= .returned (N64 (hA k + v k).toNat)∧Kept [] u w' from by rw [←hsum];exact b5b ((hA k).toNat + (v k).toNat) u))
                 have b1:=(hA k).isLt
                 have b2:=(v k).isLt
                 clear hsum
                 generalize (hA k + v k).toNat=s9 at *
                 generalize (hA k).toNat=x9 at *
                 generalize (v k).toNat=y9 at *
                 have q12:=cA.out _ hA0.out
                 have qv:=cV.out _ vrow.out
                 refine Txt.a6m [5,9] (fun u=>Blk u g12 67 ((fam 8 (mix (fun i=>(hA i).toNat) (fun i=>(hA i + v i).toNat) k)).map N64).toArray∧VR u g o2 v) [_,_,_,_,_,_,_,_,_,_,_,_,_,_] _ rfl [[_,_,_,_,_,_,_,_,_,_,_,_,_],[_]] (by kernel_rfl) (by kernel_rfl) (by kernel_rfl) rfl ⟨hA0.out,vrow.out⟩ (Txt.a0f ?_)
                 go_wp2_with (first
                  | (go_at_call 134;(with_reducible refine(ccut.out _).mono ?_);rintro e w41 ⟨rfl,kk⟩
                     replace hA0:=hjd (hA0.out.kept kk (by simp))
                     replace vrow:=hjd (vrow.out.a0o kk)
                     replace H12:=hjd (H12.out.a0g kk)
                     clear kk q12 qv))
                 refine⟨rfl,⟨hA0.out,vrow.out⟩,Txt.a0f ?_⟩
                 go_wp2_with fail
                 refine⟨rfl,⟨hA0.out,vrow.out⟩,Txt.a1d ⟨⟨by kernel_rfl,?_⟩,?_⟩⟩
                 ·intro j hj o ho hw
                  have hj2:j=5∨j=9:=by simpa using hj
                  rcases hj2 with rfl | rfl <;> cases ho
                  ·exact⟨_,rfl,fun u hu=>a0x (.tmp 325) rfl a7n rfl (cA.out u hu.1)⟩
                  ·exact⟨_,rfl,fun u hu=>a0x (.tmp 329) rfl a7n rfl (cV.out u hu.2)⟩
                 obtain⟨yx,hyx⟩:∃y,w41.cell? ⟨g12,k,none⟩=some y:=⟨_,hA0.out.a6j k hlt9⟩
                 have fx:=hA0.out.frozen k
                 go_wp2_with fail
                 go_roundg (8 - (k + 1))
                 case measure=>omega
                 case rel=>exact⟨k + 1,by omega,by omega,by go_num,hjd (hst.out _ hA0.out),hjd (vrow.out.keptS ((Kept.refl [g12] _).setCell (.inl (by simp)) _) (by simpa using ngv.out)),hjd (H12.out.b9u (H12.out.ow.a4n hA0.out (by decide)) l12.out _)⟩
                ·obtain rfl:k=8:=by omega
                 have hrow3:=hjd (show Blk wr g12 67 ((fam 8 (fun i=>(a5f pm (n + 1) i).toNat)).map N64).toArray from by
                  have:=hA0.out
                  rw [a3f]at this
                  have hbk:a5f pm (n + 1)=fun i=>hA i + v i:=by
                   show blk (fun j=>pm.getD (64 * n + j) 0) (a5f pm n)=_
                   rw [←han.out,hp.out,hbn.out,←hvv.out]
                   rfl
                  rw [hbk];exact this)
                 clear hA0 vrow
                 have e64:64 * (n + 1)=an + 64:=by have:=han.out;omega
                 go_wp2_with fail
                 go_roundg (N - (n + 1))
                 case measure=>omega
                 case rel=>exact⟨n + 1,by omega,by omega,by rw [e64];rfl,hrow3,H12⟩
        ·obtain rfl:n=N:=by omega
         obtain⟨an,han⟩:∃x,x=64 * n:=⟨_,rfl⟩
         rw [←han]at hM8 ⊢
         replace han:=hjd han
         have hatF:(an < M0.length + 8)=False:=eq_false (by omega)
         have hatG:((an:Int) < (M0.length:Int) + 8)=False:=eq_false (by omega)
         replace hM8:=hjd hM8
         have H50:=hjd (show New wn wr (.slice none 0 0) (fam (4 * 0) (a5d (a5f pm n)))from⟨Ow.nil _ _ _,H11.out.kept,.inl rfl⟩)
         generalize hH:a5f pm n=H at *
         replace hH:=hjd hH
         have l12g:=hjd hrow.out.lt
         clear H11
         go_wp2_with fail
         go_loopg [26,338] 8 (fun fu o i wk=>∃(k c:Nat) (A:Option Addr),k≤8∧fu + k=8∧i= .int .i64 (k:Int)∧o= .slice A (4 * k) c∧Hid (New wn wk (.slice A (4 * k) c) (fam (4 * k) (a5d H)))∧Hid (Blk wk g12 67 ((fam 8 (fun i=>(H i).toNat)).map N64).toArray))
         case atStart=>exact⟨0,0,none,by omega,by omega,rfl,rfl,H50,hrow⟩
         case round=>
          clear H50 hrow
          obtain⟨k,c5,A5,hk10,hfu10,rfl,rfl,H50,hrow⟩:=hrel
          by_cases hlt10:k < 8
          ·as_aux_lemma=>--<
           have q12:wr.cell? ⟨g12,k,none⟩=some (N64 (H k).toNat):=hrow.out.a6j k hlt10
           have bH:=(H k).isLt
           have dd0:((H k).toNat:Int) / 16777216 % 256=((a5d H (4 * k + 0)).toNat:Int):=b0b H k 0 (by decide) 16777216 rfl
           have dd1:((H k).toNat:Int) / 65536 % 256=((a5d H (4 * k + 1)).toNat:Int):=b0b H k 1 (by decide) 65536 rfl
           have dd2:((H k).toNat:Int) / 256 % 256=((a5d H (4 * k + 2)).toNat:Int):=b0b H k 2 (by decide) 256 rfl
           have dd3:=b0b H k 3 (by decide) 1 rfl
           generalize (H k).toNat=yk at *
           have dd0b:(yk:Int) / 16777216=((a5d H (4 * k + 0)).toNat:Int):=by rw [←dd0];omega
           have dd3b:(yk:Int) % 256=((a5d H (4 * k + 3)).toNat:Int):=by simpa using dd3
           replace dd0:=hjd dd0
           replace dd0b:=hjd dd0b
           replace dd1:=hjd dd1
           replace dd2:=hjd dd2
           replace dd3b:=hjd dd3b
           clear dd3
           have bH':=hjd bH
           clear bH
           have hlt10T:((k:Int) < 8)=True:=eq_true (by omega)
           go_wp2_with fail
           clear hlt10T
           go_loopg [26,29] 4 (fun fu o j wk=>∃(i c:Nat) (A:Option Addr),i≤4∧fu + i=4∧j= .int .i64 (3 - (i:Int))∧o= .slice A (4 * k + i) c∧Hid (New wn wk (.slice A (4 * k + i) c) (fam (4 * k + i) (a5d H)))∧Hid (Blk wk g12 67 ((fam 8 (fun i=>(H i).toNat)).map N64).toArray))
           case atStart=>exact⟨0,c5,A5,by omega,by omega,rfl,rfl,H50,hrow⟩
           case round=>
            clear H50 hrow q12
            obtain⟨i,c6,A6,hi11,hfu11,rfl,rfl,H50,hrow⟩:=hrel
            by_cases hlt11:i < 4
            ·obtain rfl | rfl | rfl | rfl:i=0∨i=1∨i=2∨i=3:=by omega
             ·generalize hz:a5d H (4 * k + 0)=z at *
              have d1:=dd0.out
              have d2:=dd0b.out
              generalize hL:4 * k + 0=L at *
              have hLs:L≤100:=by omega
              have hl:(fam L (a5d H)).length=L:=by simp [fam]
              go_wp2_with (first
               | ((with_reducible refine a0l 355 ?_);(refine a1c (o:=⟨some 355,_,_,_,_,_⟩) (v0:=a1h z) (cells:=(bv [z]).toArray) rfl a1l rfl (by first | rfl | (show Value.int .u8 ((yk:Int) / 16777216 % 256)=a1h z;rw [d1];rfl)) (by decide) rfl rfl ?_);intro g7 w7 m7
                  have b7:=hjd (show Rd w7 1 (.slice (some ⟨g7,0,none⟩) 1 1) 1 (bv [z])from⟨_,_,rfl,rfl,by omega,fun _=>⟨g7,0,rfl,fun j u hu=>by rw [m7.blk.cell];simpa using hu⟩⟩)
                  have k7:=hjd m7.kept
                  clear m7)
               | (at_builtin
                  refine a1v (n:=L) (m:=1) a1l rfl (.tmp 348) (.tmp 355) rfl rfl (by have:=H50.out.ow.a0o k7.out;rw [hl]at this;exact this) rfl b7.out (a2q _) (by omega) (by omega) ?_
                  intro v' w9 o9 k9 f9
                  obtain⟨A7,c7,hv',hlc'⟩:=o9.shape
                  subst hv'
                  have H51:=hjd (H50.out.c9y k7.out (by rw [hl];exact o9) k9 f9)
                  have hrow2:=hjd ((hrow.out.kept k7.out (by simp)).kept k9 (b1x (H50.out.ow.a4n hrow.out (by decide))))
                  clear o9 k9 f9 k7 b7 hrow))
              go_roundg (4 - (0 + 1))
              case measure=>omega
              case rel=>
               refine⟨0 + 1,c7,A7,by omega,by omega,by go_num,by subst hL;rfl,?_,hrow2⟩
               have e:fam (4 * k + (0 + 1)) (a5d H)=fam L (a5d H) ++ [z]:=by rw [←hz,←hL];exact b3t (4 * k + 0) (a5d H)
               rw [e,show 4 * k + (0 + 1)=L + 1 from by omega]
               exact H51
             ·generalize hz:a5d H (4 * k + 1)=z at *
              have d1:=dd1.out
              generalize hL:4 * k + 1=L at *
              have hLs:L≤100:=by omega
              have hl:(fam L (a5d H)).length=L:=by simp [fam]
              go_wp2_with (first
               | ((with_reducible refine a0l 355 ?_);(refine a1c (o:=⟨some 355,_,_,_,_,_⟩) (v0:=a1h z) (cells:=(bv [z]).toArray) rfl a1l rfl (by first | rfl | (show Value.int .u8 ((yk:Int) / 65536 % 256)=a1h z;rw [d1];rfl)) (by decide) rfl rfl ?_);intro g7 w7 m7
                  have b7:=hjd (show Rd w7 1 (.slice (some ⟨g7,0,none⟩) 1 1) 1 (bv [z])from⟨_,_,rfl,rfl,by omega,fun _=>⟨g7,0,rfl,fun j u hu=>by rw [m7.blk.cell];simpa using hu⟩⟩)
                  have k7:=hjd m7.kept
                  clear m7)
               | (at_builtin
                  refine a1v (n:=L) (m:=1) a1l rfl (.tmp 348) (.tmp 355) rfl rfl (by have:=H50.out.ow.a0o k7.out;rw [hl]at this;exact this) rfl b7.out (a2q _) (by omega) (by omega) ?_
                  intro v' w9 o9 k9 f9
                  obtain⟨A7,c7,hv',hlc'⟩:=o9.shape
                  subst hv'
                  have H51:=hjd (H50.out.c9y k7.out (by rw [hl];exact o9) k9 f9)
                  have hrow2:=hjd ((hrow.out.kept k7.out (by simp)).kept k9 (b1x (H50.out.ow.a4n hrow.out (by decide))))
                  clear o9 k9 f9 k7 b7 hrow))
              go_roundg (4 - (1 + 1))
              case measure=>omega
              case rel=>
               refine⟨1 + 1,c7,A7,by omega,by omega,by go_num,by subst hL;rfl,?_,hrow2⟩
               have e:fam (4 * k + (1 + 1)) (a5d H)=fam L (a5d H) ++ [z]:=by rw [←hz,←hL];exact b3t (4 * k + 1) (a5d H)
               rw [e,show 4 * k + (1 + 1)=L + 1 from by omega]
               exact H51
             ·generalize hz:a5d H (4 * k + 2)=z at *
              have d1:=dd2.out
              generalize hL:4 * k + 2=L at *
              have hLs:L≤100:=by omega
              have hl:(fam L (a5d H)).length=L:=by simp [fam]
              go_wp2_with (first
               | ((with_reducible refine a0l 355 ?_);(refine a1c (o:=⟨some 355,_,_,_,_,_⟩) (v0:=a1h z) (cells:=(bv [z]).toArray) rfl a1l rfl (by first | rfl | (show Value.int .u8 ((yk:Int) / 256 % 256)=a1h z;rw [d1];rfl)) (by decide) rfl rfl ?_);intro g7 w7 m7
                  have b7:=hjd (show Rd w7 1 (.slice (some ⟨g7,0,none⟩) 1 1) 1 (bv [z])from⟨_,_,rfl,rfl,by omega,fun _=>⟨g7,0,rfl,fun j u hu=>by rw [m7.blk.cell];simpa using hu⟩⟩)
                  have k7:=hjd m7.kept
                  clear m7)
               | (at_builtin
                  refine a1v (n:=L) (m:=1) a1l rfl (.tmp 348) (.tmp 355) rfl rfl (by have:=H50.out.ow.a0o k7.out;rw [hl]at this;exact this) rfl b7.out (a2q _) (by omega) (by omega) ?_
                  intro v' w9 o9 k9 f9
                  obtain⟨A7,c7,hv',hlc'⟩:=o9.shape
                  subst hv'
                  have H51:=hjd (H50.out.c9y k7.out (by rw [hl];exact o9) k9 f9)
                  have hrow2:=hjd ((hrow.out.kept k7.out (by simp)).kept k9 (b1x (H50.out.ow.a4n hrow.out (by decide))))
                  clear o9 k9 f9 k7 b7 hrow))
              go_roundg (4 - (2 + 1))
              case measure=>omega
              case rel=>
               refine⟨2 + 1,c7,A7,by omega,by omega,by go_num,by subst hL;rfl,?_,hrow2⟩
               have e:fam (4 * k + (2 + 1)) (a5d H)=fam L (a5d H) ++ [z]:=by rw [←hz,←hL];exact b3t (4 * k + 2) (a5d H)
               rw [e,show 4 * k + (2 + 1)=L + 1 from by omega]
               exact H51
             ·generalize hz:a5d H (4 * k + 3)=z at *
              have d1:=dd3b.out
              generalize hL:4 * k + 3=L at *
              have hLs:L≤100:=by omega
              have hl:(fam L (a5d H)).length=L:=by simp [fam]
              go_wp2_with (first
               | ((with_reducible refine a0l 355 ?_);(refine a1c (o:=⟨some 355,_,_,_,_,_⟩) (v0:=a1h z) (cells:=(bv [z]).toArray) rfl a1l rfl (by first | rfl | (show Value.int .u8 ((yk:Int) % 256)=a1h z;rw [d1];rfl)) (by decide) rfl rfl ?_);intro g7 w7 m7
                  have b7:=hjd (show Rd w7 1 (.slice (some ⟨g7,0,none⟩) 1 1) 1 (bv [z])from⟨_,_,rfl,rfl,by omega,fun _=>⟨g7,0,rfl,fun j u hu=>by rw [m7.blk.cell];simpa using hu⟩⟩)
                  have k7:=hjd m7.kept
                  clear m7)
               | (at_builtin
                  refine a1v (n:=L) (m:=1) a1l rfl (.tmp 348) (.tmp 355) rfl rfl (by have:=H50.out.ow.a0o k7.out;rw [hl]at this;exact this) rfl b7.out (a2q _) (by omega) (by omega) ?_
                  intro v' w9 o9 k9 f9
                  obtain⟨A7,c7,hv',hlc'⟩:=o9.shape
                  subst hv'
                  have H51:=hjd (H50.out.c9y k7.out (by rw [hl];exact o9) k9 f9)
                  have hrow2:=hjd ((hrow.out.kept k7.out (by simp)).kept k9 (b1x (H50.out.ow.a4n hrow.out (by decide))))
                  clear o9 k9 f9 k7 b7 hrow))
              go_roundg (4 - (3 + 1))
              case measure=>omega
              case rel=>
               refine⟨3 + 1,c7,A7,by omega,by omega,by go_num,by subst hL;rfl,?_,hrow2⟩
               have e:fam (4 * k + (3 + 1)) (a5d H)=fam L (a5d H) ++ [z]:=by rw [←hz,←hL];exact b3t (4 * k + 3) (a5d H)
               rw [e,show 4 * k + (3 + 1)=L + 1 from by omega]
               exact H51
            ·obtain rfl:i=4:=by omega
             go_wp2_with fail
             go_roundg (8 - (k + 1))
             case measure=>omega
             case rel=>exact⟨k + 1,c6,A6,by omega,by omega,by go_num,rfl,H50,hrow⟩
          ·obtain rfl:k=8:=by omega
           go_wp2_with fail
           go_ret
           refine⟨_,rfl,?_⟩
           rw [←hH.out]at H50
           exact⟨H50.out.ow,K.out.a0g H50.out.kept,by
            rcases H50.out.near with h | ⟨g,h,hg⟩
            ·exact .inl h
            ·exact .inr ⟨g,h,by have:=K.out.size;omega⟩⟩
end Go.Proofs.YtdbngnlpafcogaaGreat
