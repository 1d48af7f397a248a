/-
  Batches of updates: the document's bytes.
  The wire: numbers are read (for programs with fewer functions).
  The wire: counts, bytes and ends are read (for programs with fewer functions).
  The wire: the document's tape.
  The wire: arrays of bytes are read.
  The wire: the document's tape: the other calls.
  Batches of updates: what bytes are read as (plain).
  A part of a block is overwritten.
-/
import Derived.Test.YtdbngnlpafcogaaGreatZbJ04
import Derived.Test.YtdbngnlpafcogaaGreatZbJ00
import Derived.Laws.Bits64b
import Derived.Test.YtdbngnlpafcogaaGreatZbText
import Derived.Deep.QuietTactic
import Derived.BigQuiet
import Derived.Test.YtdbngnlpafcogaaGreatZbFam
set_option maxRecDepth 100000
namespace Go.Proofs.YtdbngnlpafcogaaGreat
open Go.RowKit Go.Mem Go.Txt
structure Upd where
 id:List UInt8
 ver:Int
 key:List UInt8
 sig:List UInt8
abbrev uC(u:Upd):List Value:=a2a u.id u.ver u.key u.sig
abbrev UL(u:Upd):Prop:=UpL u.id u.key u.sig
def d5y(u:Upd):List UInt8:=u.id ++ be8 (b3g u.ver) ++ u.key ++ u.sig
def a5r(us:List Upd):List UInt8:=us.flatMap d5y
def a4g(us:List Upd):List UInt8:=be8 us.length ++ a5r us
theorem d8g{u:Upd}(h:UL u):(d5y u).length=136:=by simp [d5y,h.id,h.key,h.sig,a1p]
theorem a8n:∀{us:List Upd},(∀u∈us,UL u)→(a5r us).length=us.length * 136
 | [],_=>rfl
 | u :: us,h=>by
   have:=a8n (us:=us) fun x hx=>h x (List.mem_cons_of_mem _ hx)
   unfold a5r at *
   rw [List.flatMap_cons,List.length_append,this,d8g (h u (by simp)),List.length_cons]
   omega
theorem c8q(us:List Upd)(u:Upd):a5r (us ++ [u])=a5r us ++ d5y u:=by simp [a5r]
theorem b7l{u:Upd}(h:UL u):(uC u).length=129:=a3g h
theorem b7d:∀{us:List Upd},(∀u∈us,UL u)→(us.flatMap uC).length=us.length * 129
 | [],_=>rfl
 | u :: us,h=>by
   rw [List.flatMap_cons,List.length_append,b7d fun x hx=>h x (List.mem_cons_of_mem _ hx),b7l (h u (by simp)),List.length_cons]
   omega
theorem b9j{us:List Upd}{j:Nat}(hj:j < us.length):us.flatMap uC=(us.take j).flatMap uC ++ (uC us[j] ++ (us.drop (j + 1)).flatMap uC):=by
 have e:us=us.take j ++ (us[j] :: us.drop (j + 1)):=by simp
 conv=>lhs;rw [e]
 rw [List.flatMap_append,List.flatMap_cons]
theorem b0m{us:List Upd}(h:∀u∈us,UL u)(j:Nat):∀u∈us.take j,UL u:=fun u hu=>h u (List.mem_of_mem_take hu)
theorem b7x{us:List Upd}{j:Nat}(hj:j < us.length):a5r (us.take (j + 1))=a5r (us.take j) ++ d5y us[j]:=by
 rw [List.take_succ_eq_append_getElem hj,c8q]
theorem a6c:SliceT Tryz.prog 40 104 129 136 (b0r (a0e 32) 0 (a0e 32) (a0e 64)):=⟨Tryz.underlying40,by kernel_rfl,rfl,by omega⟩
theorem c5h{w:World}{g o n:Nat}{xs:List UInt8}(h:w.rangeAt g o (bv xs))(hn:xs.length=n):Rd w 1 (.slice (some ⟨g,o,none⟩) n n) n (bv xs):=
 ⟨_,_,rfl,by simp [hn],by simp,fun _=>⟨g,o,rfl,fun j u hu=>h j u hu⟩⟩
theorem c7b(v:Int):IntKind.u64.wrap v=((b3g v:Nat):Int):=by
 show v % 18446744073709551616=_
 unfold b3g
 omega
set_option maxHeartbeats 6400000 in
theorem c2r{us:List Upd}(v:Value)(w:World)(hr:Rd w 129 v us.length (us.flatMap uC))(hu:∀u∈us,UL u)(hx:us.length≤1000000) :
 Calls Tryz.prog 17 #[v] w fun e w'=>∃v',e= .returned v'∧Ow w' 5 1 v' (a4g us).length (bv (a4g us))∧(∀k,v'.ownBlock=some k→w.heap.size≤k)∧Kept [] w w':=by
 obtain⟨VA,vc,rfl,_⟩:=id hr
 have H:=hjd hr
 have hu:=hjd hu
 have hz0:=hjd (a3g (ver:=0) (show UpL (a0e 32) (a0e 32) (a0e 64)from⟨rfl,rfl,rfl⟩))
 clear hr
 have cn:=hjd (fun u=>b4o us.length u (by omega))
 have ew:IntKind.u64.wrap (us.length:Int)=(us.length:Int):=by rw [IntKind.wrap_u64];omega
 go_enter Tryz.func17,Tryz.ntmps17
 go_wp2_with (first
  | (go_at_call 65;(with_reducible refine(cn.out _).mono ?_);rintro e v9 ⟨x9,rfl,h9⟩
     have O9:=hjd h9.ow
     have F9:=hjd (show∀k,x9.ownBlock=some k→w.heap.size≤k from fun k hk=>by
      rcases h9.near with h | ⟨g,h,hg⟩
      ·exact absurd (h.symm.trans hk) (by simp)
      ·have e:some g=some k:=h.symm.trans hk
       cases e
       exact hg)
     have K9:=hjd h9.kept
     clear h9))
 go_loopg [3,12] us.length (fun f x3 x12 wk=>∃j:Nat,j≤us.length∧f + j=us.length∧x12= .int .i64 (j:Int)∧Hid (Ow wk 5 1 x3 (be8 us.length ++ a5r (us.take j)).length (bv (be8 us.length ++ a5r (us.take j))))∧Hid (∀k,x3.ownBlock=some k→w.heap.size≤k)∧Hid (Kept [] w wk))
 case atStart=>exact⟨0,Nat.zero_le _,by omega,rfl,hjd (by simpa [a5r]using O9.out),F9,K9⟩
 case round=>
  obtain⟨j,hj,hf,rfl,hO,hF,hwk⟩:=hrel
  by_cases hlt:j < us.length
  ·have hp:=hjd (b9j hlt)
   have hpl:=hjd ((b7d (b0m hu.out j)).trans (by rw [List.length_take,Nat.min_eq_left hj]))
   have L:=hjd (hu.out us[j] (List.getElem_mem _))
   have hacc:=hjd (show be8 us.length ++ a5r (us.take (j + 1))=be8 us.length ++ a5r (us.take j) ++ us[j].id ++ be8 (b3g us[j].ver) ++ us[j].key ++ us[j].sig from by rw [b7x hlt];simp [d5y])
   have hal:=hjd (show(be8 us.length ++ a5r (us.take j)).length≤136000008 from by
    rw [List.length_append,a1p,a8n (b0m hu.out j),List.length_take]
    omega)
   obtain⟨ub,uo,ud,ue,_⟩:=H.out.at_ (by omega)
   obtain⟨rfl,rfl⟩:VA=some ⟨ub,uo,none⟩∧vc=ud:=by simpa using ue
   clear ue
   have E:=hjd (Rd.elem (i:=j) (H.out.a0o hwk.out) hp.out hpl.out (by omega))
   generalize us[j]=u at *
   generalize be8 us.length ++ a5r (us.take j)=acc at *
   obtain⟨XA,xc,rfl,_⟩:=(show _ from hO.out).shape
   have O:=hO
   have hF0:=hF
   clear hO
   have cr:=hjd (fun W=>b4o (b3g u.ver) W (c2s _))
   have ev:=c7b u.ver
   have hzu:=hjd (b7l L.out)
   have ho1:=hjd (a7x (id:=u.id) (key:=u.key) (sig:=u.sig) (ver:=u.ver))
   go_wp2_with (first
    | ((with_reducible refine a0l 14 ?_);refine a5h (o:=⟨some 14,_,_,_,_,_⟩) a6c rfl (.tmp 10) (.tmp 12) rfl rfl rfl hlt ?_)
    | ((with_reducible refine a0l 15 ?_);refine a1k (o:=⟨some 15,_,_,_,_,_⟩) (cs:=uC u) b0d rfl (.tmp 14) rfl rfl E.out hzu.out ?_)
    | ((with_reducible refine a0l 5 ?_);(refine a0h (o:=⟨some 5,_,_,_,_,_⟩) rfl rfl a4a ?_);intro g5 w5 m5
       refine a0c (cs:=(uC u).toArray) (o:=⟨none,Op.store 104 (.tmp 5) (.tmp 15),_,_,_,_⟩) b0d rfl (.tmp 5) (.tmp 15) rfl rfl rfl m5.blk (List.size_toArray.trans hz0.out) (List.size_toArray.trans hzu.out) ho1.out ?_
       intro wb5 b5 k5
       have B5:=hjd b5
       have kk:=m5.kept.a0p k5 m5.le
       replace O:=hjd (O.out.a0o kk)
       replace hwk:=hjd (hwk.out.a0g kk)
       have qv:=a2w L.out b5
       clear m5 b5 k5 kk)
    | (at_builtin;refine a1v a1l rfl (.tmp 16) (.tmp 18) rfl rfl (xs:=bv acc) (n:=acc.length) (m:=32) (news:=bv (u.id)) O.out rfl (c5h (c8d B5.out) L.out.id) (a2q _) (by have:=hal.out;have:=a1p (b3g u.ver);omega) (by have:=hal.out;have:=a1p (b3g u.ver);omega) ?_
       intro x19 w19 o19 k19 b19
       replace hF:=hjd (show∀k,x19.ownBlock=some k→w.heap.size≤k from fun k hk=>by
        rcases b19 with b | b
        ·exact hF.out k (b.symm.trans hk)
        ·have:=hwk.out.size
         have e:=b.symm.trans hk
         cases e
         exact this)
       replace B5:=hjd (B5.out.kept k19 (fun h=>O.out.a4n B5.out (by decide) (Option.mem_toList.1 h)))
       replace hwk:=hjd (hwk.out.fresh k19 (fun k hk=>hF0.out k (Option.mem_toList.1 hk)))
       have qv:=a2w L.out B5.out
       obtain⟨acc19,hacc19⟩:∃l,l=acc ++ u.id:=⟨_,rfl⟩
       have hl19:=hjd (show acc19.length≤136000040 from by rw [hacc19,List.length_append,L.out.id];have:=hal.out;omega)
       replace O:=hjd (show Ow w19 5 1 x19 acc19.length (bv acc19)from by rw [hacc19,List.length_append,L.out.id];simpa [L.out.id]using o19)
       replace hacc19:=hjd hacc19
       have hO19:=O.out
       obtain⟨XA19,xc19,rfl,_⟩:=hO19.shape
       replace hF0:=hF
       clear o19 k19 b19 hO19)
    | (go_at_call 65;(with_reducible refine(cr.out _).mono ?_);rintro e v24 ⟨x24,rfl,h24⟩
       have R24:=hjd (Rd.a6u h24.ow)
       have h24k:=h24.kept
       obtain⟨NA,nc,rfl,_⟩:=h24.ow.shape
       replace O:=hjd (O.out.a0o h24k)
       replace B5:=hjd (B5.out.kept h24k (by simp))
       replace hwk:=hjd (hwk.out.a0g h24k)
       clear h24 h24k)
    | (at_builtin;refine a1v a1l rfl (.tmp 20) (.tmp 24) rfl rfl (xs:=bv acc19) (n:=acc19.length) (m:=(be8 (b3g u.ver)).length) (news:=bv (be8 (b3g u.ver))) O.out rfl R24.out (a2q _) (by have:=hl19.out;have:=a1p (b3g u.ver);omega) (by have:=hl19.out;have:=a1p (b3g u.ver);omega) ?_
       intro x25 w25 o25 k25 b25
       replace hF:=hjd (show∀k,x25.ownBlock=some k→w.heap.size≤k from fun k hk=>by
        rcases b25 with b | b
        ·exact hF.out k (b.symm.trans hk)
        ·have:=hwk.out.size
         have e:=b.symm.trans hk
         cases e
         exact this)
       replace B5:=hjd (B5.out.kept k25 (fun h=>O.out.a4n B5.out (by decide) (Option.mem_toList.1 h)))
       replace hwk:=hjd (hwk.out.fresh k25 (fun k hk=>hF0.out k (Option.mem_toList.1 hk)))
       obtain⟨acc25,hacc25⟩:∃l,l=acc19 ++ be8 (b3g u.ver):=⟨_,rfl⟩
       have hl25:=hjd (show acc25.length≤136000048 from by rw [hacc25,List.length_append,a1p];have:=hl19.out;omega)
       replace O:=hjd (show Ow w25 5 1 x25 acc25.length (bv acc25)from by rw [hacc25,List.length_append,a1p];simpa [a1p]using o25)
       replace hacc25:=hjd hacc25
       have hO25:=O.out
       obtain⟨XA25,xc25,rfl,_⟩:=hO25.shape
       replace hF0:=hF
       clear o25 k25 b25 hO25)
    | (at_builtin;refine a1v a1l rfl (.tmp 26) (.tmp 28) rfl rfl (xs:=bv acc25) (n:=acc25.length) (m:=32) (news:=bv (u.key)) O.out rfl (c5h (b4t L.out B5.out) L.out.key) (a2q _) (by have:=hl25.out;have:=a1p (b3g u.ver);omega) (by have:=hl25.out;have:=a1p (b3g u.ver);omega) ?_
       intro x29 w29 o29 k29 b29
       replace hF:=hjd (show∀k,x29.ownBlock=some k→w.heap.size≤k from fun k hk=>by
        rcases b29 with b | b
        ·exact hF.out k (b.symm.trans hk)
        ·have:=hwk.out.size
         have e:=b.symm.trans hk
         cases e
         exact this)
       replace B5:=hjd (B5.out.kept k29 (fun h=>O.out.a4n B5.out (by decide) (Option.mem_toList.1 h)))
       replace hwk:=hjd (hwk.out.fresh k29 (fun k hk=>hF0.out k (Option.mem_toList.1 hk)))
       obtain⟨acc29,hacc29⟩:∃l,l=acc25 ++ u.key:=⟨_,rfl⟩
       have hl29:=hjd (show acc29.length≤136000080 from by rw [hacc29,List.length_append,L.out.key];have:=hl25.out;omega)
       replace O:=hjd (show Ow w29 5 1 x29 acc29.length (bv acc29)from by rw [hacc29,List.length_append,L.out.key];simpa [L.out.key]using o29)
       replace hacc29:=hjd hacc29
       have hO29:=O.out
       obtain⟨XA29,xc29,rfl,_⟩:=hO29.shape
       replace hF0:=hF
       clear o29 k29 b29 hO29)
    | (at_builtin;refine a1v a1l rfl (.tmp 30) (.tmp 32) rfl rfl (xs:=bv acc29) (n:=acc29.length) (m:=64) (news:=bv (u.sig)) O.out rfl (c5h (b9l L.out B5.out) L.out.sig) (a2q _) (by have:=hl29.out;have:=a1p (b3g u.ver);omega) (by have:=hl29.out;have:=a1p (b3g u.ver);omega) ?_
       intro x33 w33 o33 k33 b33
       replace hF:=hjd (show∀k,x33.ownBlock=some k→w.heap.size≤k from fun k hk=>by
        rcases b33 with b | b
        ·exact hF.out k (b.symm.trans hk)
        ·have:=hwk.out.size
         have e:=b.symm.trans hk
         cases e
         exact this)
       replace B5:=hjd (B5.out.kept k33 (fun h=>O.out.a4n B5.out (by decide) (Option.mem_toList.1 h)))
       replace hwk:=hjd (hwk.out.fresh k33 (fun k hk=>hF0.out k (Option.mem_toList.1 hk)))
       obtain⟨acc33,hacc33⟩:∃l,l=acc29 ++ u.sig:=⟨_,rfl⟩
       have hl33:=hjd (show acc33.length≤136000144 from by rw [hacc33,List.length_append,L.out.sig];have:=hl29.out;omega)
       replace O:=hjd (show Ow w33 5 1 x33 acc33.length (bv acc33)from by rw [hacc33,List.length_append,L.out.sig];simpa [L.out.sig]using o33)
       replace hacc33:=hjd hacc33
       have hO33:=O.out
       obtain⟨XA33,xc33,rfl,_⟩:=hO33.shape
       replace hF0:=hF
       clear o33 k33 b33 hO33))
   go_roundg (us.length - (j + 1))
   case measure=>omega
   case rel=>exact⟨j + 1,by omega,by omega,by go_num,by rw [hacc.out,←hacc19.out,←hacc25.out,←hacc29.out,←hacc33.out];exact O,hF,hwk⟩
  ·obtain rfl:j=us.length:=by omega
   rw [List.take_length]at hO
   have R:=hO
   clear hO
   go_wp2_with fail
   go_ret
   exact⟨_,rfl,R.out,hF.out,hwk.out⟩
end Go.Proofs.YtdbngnlpafcogaaGreat
namespace Go.Proofs.YtdbngnlpafcogaaGreat
open Go.RowKit Go.Mem
def beV(l:List UInt8):Nat:=l.foldl (fun a b=>a * 256 + b.toNat) 0
theorem c7y(l:List UInt8)(b:UInt8):beV (l ++ [b])=beV l * 256 + b.toNat:=by simp [beV]
theorem d3s:∀(l:List UInt8) (a:Nat),l.foldl (fun a b=>a * 256 + b.toNat) a < (a + 1) * 256 ^ l.length
 | [],a=>by simp
 | b :: l,a=>by
   have h:=d3s l (a * 256 + b.toNat)
   have hb:=b.toNat_lt
   have h2:(a * 256 + b.toNat + 1) * 256 ^ l.length≤((a + 1) * 256) * 256 ^ l.length:=Nat.mul_le_mul_right _ (by omega)
   simp only [List.foldl_cons,List.length_cons,Nat.pow_succ]
   rw [Nat.mul_comm (256 ^ l.length) 256,←Nat.mul_assoc]
   omega
theorem d3i(l:List UInt8):beV l < 256 ^ l.length:=by have:=d3s l 0;simpa [beV]using this
theorem or_be(V b:Nat)(hV:V < 72057594037927936)(hb:b < 256):bits .or .u64 (IntKind.u64.wrap ((V:Int) * 256)) (IntKind.u64.wrap (b:Int))=((V * 256 + b:Nat):Int):=by
 have e1:IntKind.u64.wrap ((V:Int) * 256)=((V * 256:Nat):Int):=by rw [IntKind.wrap_u64];omega
 have e2:IntKind.u64.wrap (b:Int)=(b:Int):=by rw [IntKind.wrap_u64];omega
 rw [e1,e2,bits_or_u64_nat _ _ (by omega) (by omega)]
 have:=Nat.two_pow_add_eq_or_of_lt (i:=8) (b:=b) hb V
 have e3:256 * V ||| b=256 * V + b:=by simpa using this.symm
 rw [Nat.mul_comm V 256,e3]
theorem d8z(xs:List UInt8)(k:Nat)(h:k < xs.length)(h8:xs.length≤8):bits .or .u64 (IntKind.u64.wrap ((beV (xs.take k):Int) * 256)) (IntKind.u64.wrap (xs[k].toNat:Int))=(beV (xs.take (k + 1)):Int):=by
 have hl:=d3i (xs.take k)
 have:256 ^ (xs.take k).length≤256 ^ 7:=Nat.pow_le_pow_right (by omega) (by rw [List.length_take];omega)
 rw [or_be _ _ (by omega) (by have:=xs[k].toNat_lt;omega),List.take_succ_eq_append_getElem h,c7y]
abbrev St:=Int × List UInt8
def a3e(n:Nat)(s:St):List UInt8 × St:=
 if s.1=0 then(if n≤s.2.length then(s.2.take n,(0,s.2.drop n))else([],(10,s.2)))else([],s)
def a8i(s:St):Nat × St:=(beV (a3e 8 s).1,(a3e 8 s).2)
def a6l(most:Nat)(s:St):Nat × St:=if most < (a8i s).1 then(0,(12,(a8i s).2.2))else a8i s
def a8j(s:St):Int:=if s.1=0 then(if 0 < s.2.length then 11 else 0)else s.1
theorem a5n(n:Nat)(s:St):(a3e n s).1.length≤n:=by unfold a3e;split <;> (try split) <;> simp <;> omega
theorem b4h(s:St):(a8i s).1 < 18446744073709551616:=by
 have h:=d3i (a3e 8 s).1
 have h2:=a5n 8 s
 have:256 ^ (a3e 8 s).1.length≤256 ^ 8:=Nat.pow_le_pow_right (by omega) h2
 unfold a8i
 simp only
 omega
def a6w(w:World)(r:Nat)(s:St):Prop:=∃v,Blk w r 188 #[v,.int .i64 s.1]∧Ow w 5 1 v s.2.length (bv s.2)
theorem a6w.lt{w:World}{r:Nat}{s:St}(h:a6w w r s):r < w.heap.size:=by obtain⟨v,h,_⟩:=h;exact h.lt
theorem b8d(r n:Nat)(s:St)(w:World)(h:a6w w r s)(_:n≤9223372036854775807) :
 Calls Tryz.prog 138 #[.pointer (some ⟨r,0,none⟩),.int .i64 n] w fun e w'=>∃x,e= .returned x∧Rd w' 1 x (a3e n s).1.length (bv (a3e n s).1)∧a6w w' r (a3e n s).2∧Kept [r] w w':=by
 obtain⟨bad,bs⟩:=s
 obtain⟨v,hb,ho⟩:=h
 have c0:=hb.cell 0
 have c1:=hb.cell 1
 simp at c0 c1
 have hf:=hb.frozen 0
 have hf1:=hb.frozen 1
 have hne:=ho.a4n hb (by decide)
 dsimp only at ho
 by_cases h0:bad=0
 ·subst h0
  obtain⟨A,c,rfl,hc⟩:=ho.shape
  by_cases hl:n≤bs.length
  ·obtain⟨X,dx,hX,oX⟩:=ow_to3 a1l ho .i64 n hl
   obtain⟨Y,dy,hY,oY⟩:=e2p a1l ho .i64 n hl
   have hx:=oX.a4n hb (by decide)
   have hy:=oY.a4n hb (by decide)
   have hb2:=hjd hb
   have oX2:=hjd oX
   have oY2:=hjd oY
   clear hb ho oX oY hc
   go_enter Tryz.func138,Tryz.ntmps138
   go_wp2_with fail
   go_ret
   have e:a3e n (0,bs)=(bs.take n,(0,bs.drop n)):=by simp [a3e,hl]
   have e1:(bs.take n).length=n:=by rw [List.length_take];omega
   have e2:(bs.drop n).length=bs.length - n:=by rw [List.length_drop]
   rw [e]
   refine⟨_,rfl,?_,⟨_,by simpa using hb2.out.b2b 0 _,?_⟩,(Kept.refl _ w).setCell (.inl (by simp)) _⟩
   ·have:=Rd.a6u (oX2.out.setCell (p:=⟨r,0,none⟩) hx (.slice Y (bs.length - n) dy))
    simpa [bv,e1]using this
   ·have:=oY2.out.setCell (p:=⟨r,0,none⟩) hy (.slice Y (bs.length - n) dy)
    simpa [bv,e2]using this
  ·have hb2:=hjd hb
   have ho2:=hjd ho
   clear hb ho hc
   go_enter Tryz.func138,Tryz.ntmps138
   go_wp2_with fail
   go_ret
   have e:a3e n (0,bs)=([],(10,bs)):=by simp [a3e];omega
   rw [e]
   exact⟨_,rfl,Rd.nil _ _,⟨_,by simpa using hb2.out.b2b 1 _,by simpa using ho2.out.setCell (p:=⟨r,1,none⟩) hne _⟩,(Kept.refl _ w).setCell (.inl (by simp)) _⟩
 ·have hb2:=hjd hb
  have ho2:=hjd ho
  clear hb ho
  go_enter Tryz.func138,Tryz.ntmps138
  go_wp2_with fail
  go_ret
  have e:a3e n (bad,bs)=([],(bad,bs)):=by simp [a3e,h0]
  rw [e]
  exact⟨_,rfl,Rd.nil _ _,⟨_,hb2.out,ho2.out⟩,Kept.refl _ _⟩
theorem b0g(r:Nat)(s:St)(w:World)(h:a6w w r s) :
 Calls Tryz.prog 72 #[.pointer (some ⟨r,0,none⟩)] w fun e w'=>e= .returned (.int .u64 (a8i s).1)∧a6w w' r (a8i s).2∧Kept [r] w w':=by
 have H:=b8d r 8 s w h (by omega)
 have hl8:=a5n 8 s
 unfold a8i
 generalize a3e 8 s=q at *
 obtain⟨xs,s2⟩:=q
 dsimp only at H hl8 ⊢
 have H2:=hjd H
 clear h H
 go_enter Tryz.func72,Tryz.ntmps72
 go_wp2_with (go_at_call 138;refine H2.out.mono ?_;rintro e w1 ⟨x,rfl,hx,hr,hk⟩;obtain⟨XA,xc,rfl,hxl,_,hxc⟩:=hx)
 have hr2:=hjd hr
 have hk2:=hjd hk
 clear hr hk
 go_loop [3,9] (fun v i=>∃k:Nat,k≤xs.length∧i= .int .i64 k∧v= .int .u64 (beV (xs.take k))) (fun _ i=>xs.length - (intOf i).toNat)
 case atStart=>exact⟨0,Nat.zero_le _,rfl,rfl⟩
 case round=>
  obtain⟨k,hk,rfl,rfl⟩:=hrel
  by_cases hlt:k < xs.length
  ·obtain⟨b,o,rfl,hcell⟩:=hxc (by omega)
   have hcl:=hcell k (a1h xs[k]) (by simp [hlt])
   unfold a1h at hcl
   have hst:=d8z xs k hlt hl8
   have hst2:=hjd hst
   clear hcell hst
   go_wp2_with fail
   exact⟨⟨k + 1,by omega,by go_num,by rw [hst2.out]⟩,by simp [intOf];omega⟩
  ·obtain rfl:k=xs.length:=by omega
   go_wp2_with fail
   go_ret
   exact⟨rfl,hr2.out,hk2.out⟩
theorem e5d(b:Value)(bs:List UInt8)(w:World)(hr:Rd w 1 b bs.length (bv bs))(hb:bs.length≤140737488355328) :
 Calls Tryz.prog 68 #[b] w fun e w'=>∃r,e= .returned (.pointer (some ⟨r,0,none⟩))∧a6w w' r (0,bs)∧Kept [] w w'∧w.heap.size≤r:=by
 have H:=hjd hr
 clear hr
 go_enter Tryz.func68,Tryz.ntmps68
 go_wp2_with (go_at_call 127;refine(c1n _ bs w H.out hb).mono ?_;rintro e w1 ⟨ov,rfl,hn⟩;obtain⟨OA,oc,rfl,_⟩:=hn.ow.shape;have hn2:=hjd hn;clear hn)
 go_ret
 exact⟨_,rfl,⟨_,Blk.new _ _ _,hn2.out.ow.alloc _⟩,hn2.out.kept.alloc _,hn2.out.kept.size⟩
end Go.Proofs.YtdbngnlpafcogaaGreat
namespace Go.Proofs.YtdbngnlpafcogaaGreat
open Go.RowKit Go.Mem
theorem c2v(r most:Nat)(s:St)(w:World)(h:a6w w r s)(hm:most < 9223372036854775808) :
 Calls Tryz.prog 137 #[.pointer (some ⟨r,0,none⟩),.int .u64 most] w fun e w'=>e= .returned (.int .i64 (a6l most s).1)∧a6w w' r (a6l most s).2∧Kept [r] w w':=by
 have H:=b0g r s w h
 unfold a6l
 have hlt:=b4h s
 generalize a8i s=q at *
 obtain⟨v,s2⟩:=q
 dsimp only at H hlt ⊢
 have H2:=hjd H
 clear h H
 by_cases hgt:most < v
 ·go_enter Tryz.func137,Tryz.ntmps137
  go_wp2_with (go_at_call 72;refine H2.out.mono ?_;rintro e w1 ⟨rfl,⟨bv1,hb,ho⟩,hk⟩;have hf:=hb.frozen 1;have c1:=hb.cell 1;simp at c1;have hne:=ho.a4n hb (by decide);have hb2:=hjd hb;have ho2:=hjd ho;have hk2:=hjd hk;clear hb ho hk)
  go_ret
  exact⟨rfl,⟨_,by simpa using hb2.out.b2b 1 _,by simpa using ho2.out.setCell (p:=⟨r,1,none⟩) hne _⟩,hk2.out.setCell (.inl (by simp)) _⟩
 ·go_enter Tryz.func137,Tryz.ntmps137
  go_wp2_with (go_at_call 72;refine H2.out.mono ?_;rintro e w1 ⟨rfl,hr,hk⟩;have hr2:=hjd hr;have hk2:=hjd hk;clear hr hk)
  go_ret
  exact⟨rfl,hr2.out,hk2.out⟩
theorem d2j(r:Nat)(s:St)(w:World)(h:a6w w r s) :
 Calls Tryz.prog 69 #[.pointer (some ⟨r,0,none⟩)] w fun e w'=>e= .returned (.int .i64 (a6l 65536 s).1)∧a6w w' r (a6l 65536 s).2∧Kept [r] w w':=by
 have H:=hjd (c2v r 65536 s w h (by omega))
 clear h
 go_enter Tryz.func69,Tryz.ntmps69
 go_wp2_with (go_at_call 137;refine H.out.mono ?_;rintro e w1 ⟨rfl,hr,hk⟩;have hr2:=hjd hr;have hk2:=hjd hk;clear hr hk)
 go_ret
 exact⟨rfl,hr2.out,hk2.out⟩
theorem b4j(most:Nat)(s:St):(a6l most s).1≤most:=by
 unfold a6l
 split
 ·exact Nat.zero_le _
 ·omega
theorem a4b(r:Nat)(s:St)(w:World)(h:a6w w r s) :
 Calls Tryz.prog 70 #[.pointer (some ⟨r,0,none⟩)] w fun e w'=>e= .returned (.int .i64 (a8j s))∧w=w':=by
 obtain⟨bad,bs⟩:=s
 obtain⟨v,hb,ho⟩:=h
 have c0:=hb.cell 0
 have c1:=hb.cell 1
 simp at c0 c1
 obtain⟨A,c,rfl,hc⟩:=ho.shape
 dsimp only at c0 ⊢
 clear ho hb
 unfold a8j
 dsimp only
 by_cases h0:bad=0
 ·subst h0
  rw [if_pos rfl]
  by_cases hl:0 < bs.length
  ·rw [if_pos hl]
   go_enter Tryz.func70,Tryz.ntmps70
   go_wp2_with fail
   go_ret
   exact⟨rfl,rfl⟩
  ·rw [if_neg hl]
   go_enter Tryz.func70,Tryz.ntmps70
   go_wp2_with fail
   go_ret
   exact⟨rfl,rfl⟩
 ·rw [if_neg h0]
  go_enter Tryz.func70,Tryz.ntmps70
  go_wp2_with fail
  go_ret
  exact⟨rfl,rfl⟩
theorem a6w.kept{S:List Nat}{w w':World}{r:Nat}{s:St}(h:a6w w r s)(hk:Kept S w w')(hr:r∉S)(hS:∀k∈S,w.heap.size≤k∨∃t cs,Blk w k t cs∧t≠5):a6w w' r s:=by
 obtain⟨v,hb,ho⟩:=h
 refine⟨v,hb.kept hk hr,ho.kept hk fun k hv hm=>?_⟩
 rcases hS k hm with h | ⟨t,cs,h,hne⟩
 ·have:=ho.lt hv;omega
 ·exact ho.a4n h (fun e=>hne e.symm) hv
theorem a6w.a0o{w w':World}{r:Nat}{s:St}(h:a6w w r s)(hk:Kept [] w w'):a6w w' r s:=h.kept hk (by simp) (by simp)
theorem a6w.drew{w:World}{r:Nat}{s:St}(h:a6w w r s):a6w w.drew r s:=h
end Go.Proofs.YtdbngnlpafcogaaGreat
namespace Go.Proofs.YtdbngnlpafcogaaGreat
open Go.RowKit Go.Mem
def a4d(w:World)(base t:Nat)(s:St):Prop:=
 ∃(v:Value) (bs:List UInt8) (k:Nat),Blk w t 122 #[v,.int .i64 k,.int .i64 s.1]∧Rd w 1 v bs.length (bv bs)∧k≤bs.length∧bs.length≤9223372036854775807∧s.2=bs.drop k∧base≤t∧(0 < bs.length→∀g,v.ownBlock=some g→g < base)
theorem a4d.kept{S:List Nat}{w w':World}{base t:Nat}{s:St}(h:a4d w base t s)(hk:Kept S w w')(ht:t∉S)(hS:∀k∈S,base≤k):a4d w' base t s:=by
 obtain⟨v,bs,k,hb,hr,h1,h2,h3,h4,h5⟩:=h
 refine⟨v,bs,k,hb.kept hk ht,hr.kept hk (fun hn g hg hm=>?_),h1,h2,h3,h4,h5⟩
 have:=h5 hn g hg
 have:=hS g hm
 omega
theorem a4d.a0o{w w':World}{base t:Nat}{s:St}(h:a4d w base t s)(hk:Kept [] w w'):a4d w' base t s:=h.kept hk (by simp) (by simp)
theorem b4x(base t n:Nat)(s:St)(w:World)(h:a4d w base t s)(hn:n≤4611686018427387904) :
 Calls Tryz.prog 168 #[.pointer (some ⟨t,0,none⟩),.int .i64 n] w fun e w'=>∃x,e= .returned x∧Rd w' 1 x (a3e n s).1.length (bv (a3e n s).1)∧(0 < (a3e n s).1.length→∀g,x.ownBlock=some g→g < base)∧a4d w' base t (a3e n s).2∧Kept [t] w w':=by
 obtain⟨bad,ls⟩:=s
 obtain⟨v,bs,k,hb,hr,hkl,hbl,hls,hbt,hold⟩:=h
 dsimp only at hls hb
 subst hls
 have c0:=hb.cell 0
 have c1:=hb.cell 1
 have c2:=hb.cell 2
 simp at c0 c1 c2
 have hf1:=hb.frozen 1
 have hf2:=hb.frozen 2
 have hb2:=hjd hb
 have hr2:=hjd hr
 have hold2:=hjd hold
 by_cases h0:bad=0
 ·subst h0
  by_cases hl:n≤(bs.drop k).length
  ·rw [List.length_drop]at hl
   obtain⟨X,dx,hX,rX,oX,_⟩:=c7i a1l hr .i64 .i64 k (k + n) (by omega) (by omega)
   obtain⟨A,c,rfl,_,_,_⟩:=hr
   have hX2:∀W,(Instr.sliceAt 23 (.slice A bs.length c) (some (.int .i64 k)) (some (.int .i64 ((k:Int) + n))) none).run Tryz.prog W= .ok (.slice X n dx) W:=fun W=>by
    have:=hX W
    rw [Nat.add_sub_cancel_left]at this
    simpa using this
   have rX2:=hjd rX
   have oX2:=hjd oX
   clear hb hold rX hX oX
   go_enter Tryz.func168,Tryz.ntmps168
   go_wp2_with fail
   refine Txt.a2o (by kernel_rfl) (by kernel_rfl) ?_
   go_wp2_with fail
   refine⟨rfl,by kernel_rfl,?_⟩
   go_wp2_with fail
   refine Txt.a2o (by kernel_rfl) (by kernel_rfl) ?_
   go_wp2_with fail
   refine⟨rfl,by kernel_rfl,?_⟩
   go_wp2_with fail
   go_ret
   have e:a3e n (0,bs.drop k)=((bs.drop k).take n,(0,bs.drop (k + n))):=by simp [a3e];omega
   have e1:((bs.drop k).take n).length=n:=by rw [List.length_take,List.length_drop];omega
   rw [e]
   have hb3:=hb2.out.b2b 1 (.int .i64 ((k + n:Nat):Int))
   simp at hb3
   have hkk:Kept [t] w (w.setCell ⟨t,1,none⟩ (.int .i64 ((k:Int) + n))):=(Kept.refl [t] w).setCell (.inl (List.mem_singleton.2 rfl)) _
   have hfar:∀g,(Value.slice A bs.length c).ownBlock=some g→0 < bs.length→g∉[t]:=fun g hg hn hm=>by
    have:=hold2.out hn g hg
    have:g=t:=by simpa using hm
    omega
   refine⟨.slice X n dx,rfl,?_,fun hn g hg=>hold2.out (by rw [e1]at hn;omega) g (by rw [←oX2.out (by rw [e1]at hn;omega)];simpa [Value.ownBlock]using hg),⟨.slice A bs.length c,bs,k + n,?_,?_,by omega,hbl,rfl,hbt,hold2.out⟩,?_⟩
   ·rw [e1]
    have:=rX2.out.kept hkk (fun hn g hg=>hfar g (by rw [←oX2.out hn];exact hg) (by omega))
    rw [Nat.add_sub_cancel_left]at this
    simpa [bv]using this.drew.drew
   ·exact hb3.drew.drew
   ·exact(hr2.out.kept hkk (fun hn g hg=>hfar g hg hn)).drew.drew
   ·exact hkk.drew.drew
  ·rw [List.length_drop]at hl
   obtain⟨A,c,rfl,_,_,_⟩:=hr
   clear hb hold
   go_enter Tryz.func168,Tryz.ntmps168
   go_wp2_with fail
   refine Txt.a2o (by kernel_rfl) (by kernel_rfl) ?_
   go_wp2_with fail
   refine⟨rfl,by kernel_rfl,?_⟩
   go_wp2_with fail
   go_ret
   have e:a3e n (0,bs.drop k)=([],(10,bs.drop k)):=by simp [a3e];omega
   rw [e]
   have hb3:=hb2.out.b2b 2 (.int .i64 10)
   simp at hb3
   have hkk:Kept [t] w (w.setCell ⟨t,2,none⟩ (.int .i64 10)):=(Kept.refl [t] w).setCell (.inl (List.mem_singleton.2 rfl)) _
   refine⟨_,rfl,Rd.nil _ _,fun h=>absurd h (by simp),⟨_,bs,k,hb3.drew,Rd.drew (hr2.out.kept hkk (fun hn g hg hm=>?_)),hkl,hbl,rfl,hbt,hold2.out⟩,hkk.drew⟩
   have:=hold2.out hn g hg
   have:g=t:=by simpa using hm
   omega
 ·obtain⟨A,c,rfl,_,_,_⟩:=hr
  clear hb hold
  go_enter Tryz.func168,Tryz.ntmps168
  go_wp2_with fail
  go_ret
  have e:a3e n (bad,bs.drop k)=([],(bad,bs.drop k)):=by simp [a3e,h0]
  rw [e]
  exact⟨_,rfl,Rd.nil _ _,fun h=>absurd h (by simp),⟨_,bs,k,hb2.out,hr2.out,hkl,hbl,rfl,hbt,hold2.out⟩,Kept.refl _ _⟩
theorem mul_be(V b:Nat)(hV:V < 72057594037927936)(hb:b < 256):IntKind.u64.wrap (IntKind.u64.wrap (256 * (V:Int)) + IntKind.u64.wrap (b:Int))=((V * 256 + b:Nat):Int):=by
 rw [IntKind.wrap_u64,IntKind.wrap_u64,IntKind.wrap_u64]
 omega
theorem d0r(xs:List UInt8)(k:Nat)(h:k < xs.length)(h8:xs.length≤8):IntKind.u64.wrap (IntKind.u64.wrap (256 * (beV (xs.take k):Int)) + IntKind.u64.wrap (xs[k].toNat:Int))=(beV (xs.take (k + 1)):Int):=by
 have hl:=d3i (xs.take k)
 have:256 ^ (xs.take k).length≤256 ^ 7:=Nat.pow_le_pow_right (by omega) (by rw [List.length_take];omega)
 rw [mul_be _ _ (by omega) (by have:=xs[k].toNat_lt;omega),List.take_succ_eq_append_getElem h,c7y]
theorem c4z(base t:Nat)(s:St)(w:World)(h:a4d w base t s) :
 Calls Tryz.prog 141 #[.pointer (some ⟨t,0,none⟩)] w fun e w'=>e= .returned (.int .u64 (a8i s).1)∧a4d w' base t (a8i s).2∧Kept [t] w w':=by
 have H:=b4x base t 8 s w h (by omega)
 have hl8:=a5n 8 s
 unfold a8i
 generalize a3e 8 s=q at *
 obtain⟨xs,s2⟩:=q
 dsimp only at H hl8 ⊢
 have H2:=hjd H
 clear h H
 go_enter Tryz.func141,Tryz.ntmps141
 go_wp2_with (go_at_call 168;refine H2.out.mono ?_;rintro e w1 ⟨x,rfl,hx,_,hr,hk⟩;obtain⟨XA,xc,rfl,hxl,_,hxc⟩:=hx)
 have hr2:=hjd hr
 have hk2:=hjd hk
 clear hr hk
 go_loop [3,9] (fun v i=>∃k:Nat,k≤xs.length∧i= .int .i64 k∧v= .int .u64 (beV (xs.take k))) (fun _ i=>xs.length - (intOf i).toNat)
 case atStart=>exact⟨0,Nat.zero_le _,rfl,rfl⟩
 case round=>
  obtain⟨k,hk,rfl,rfl⟩:=hrel
  by_cases hlt:k < xs.length
  ·obtain⟨b,o,rfl,hcell⟩:=hxc (by omega)
   have hcl:=hcell k (a1h xs[k]) (by simp [hlt])
   unfold a1h at hcl
   have hst:=d0r xs k hlt hl8
   have hst2:=hjd hst
   clear hcell hst
   go_wp2_with fail
   exact⟨⟨k + 1,by omega,by go_num,by rw [hst2.out]⟩,by simp [intOf];omega⟩
  ·obtain rfl:k=xs.length:=by omega
   go_wp2_with fail
   go_ret
   exact⟨rfl,hr2.out,hk2.out⟩
end Go.Proofs.YtdbngnlpafcogaaGreat
namespace Go.Proofs.YtdbngnlpafcogaaGreat
open Go.RowKit Go.Mem
theorem b6p:ArrT Tryz.prog 22 5 32:=⟨Tryz.underlying22,by kernel_rfl⟩
theorem b6o:ArrT Tryz.prog 32 5 64:=⟨Tryz.underlying32,by kernel_rfl⟩
theorem b8y:(Tryz.prog.info? 22).map (·.zero)=some (some (ab (a0e 32))):=by kernel_rfl
theorem b8k:(Tryz.prog.info? 32).map (·.zero)=some (some (ab (a0e 64))):=by kernel_rfl
def a3w(n:Nat)(s:St):List UInt8 × St:=(a5o (a0e n) 0 ((a3e n s).1),(a3e n s).2)
theorem a3h(n:Nat)(s:St):(a3w n s).1.length=n:=by
 unfold a3w
 rw [a7s _ _ _ (by have:=a5n n s;simp;omega)]
 simp
theorem a6w.a5x{w w':World}{r g:Nat}{s:St}{t:TypeId}{cs:Array Value}(h:a6w w r s)(hk:Kept [g] w w')(hb:Blk w g t cs)(ht:t≠5)(hr:r≠g):a6w w' r s:=
 h.kept hk (by simpa using hr) (fun k hm=>by simp at hm;subst hm;exact .inr ⟨_,_,hb,ht⟩)
theorem a5v(r:Nat)(s:St)(w:World)(h:a6w w r s) :
 Calls Tryz.prog 71 #[.pointer (some ⟨r,0,none⟩)] w fun e w'=>e= .returned (ab (a3w 32 s).1)∧a6w w' r (a3w 32 s).2∧Kept [r] w w':=by
 have h2:=hjd h
 clear h
 go_enter Tryz.func71,Tryz.ntmps71
 go_wp2_with (first
  | ((with_reducible refine a0h (o:=⟨some 2,_,_,_,_,_⟩) rfl rfl b8y ?_);intro g1 w1 m1)
  | ((with_reducible refine a0h (o:=⟨some 3,_,_,_,_,_⟩) rfl rfl b8y ?_);intro g2 w2 m2))
 refine Txt.a2o (by kernel_rfl) (by kernel_rfl) ?_
 go_wp2_with fail
 have hr2:=(h2.out.a0o m1.kept).a0o m2.kept
 have n1:=m2.ne m1.blk.lt
 have n2:=m1.ne h2.out.lt
 have n3:=m2.ne (m1.kept.lt h2.out.lt)
 refine(b8d r 32 s _ hr2.drew (by omega)).mono ?_
 rintro e w3 ⟨x,rfl,hx,hr,hk⟩
 have b1:=(m1.blk.kept m2.kept (by simp)).drew.kept hk (by simp;omega)
 have b2:=m2.blk.drew.kept hk (by simp;omega)
 have H:=hjd (And.intro hr (And.intro b1 (And.intro b2 hk)))
 have M:=hjd (And.intro m1 m2)
 have N:=hjd (And.intro n1 (And.intro n2 n3))
 have hx2:=hjd hx
 clear hr b1 hk m1 m2 hx n1 n2 n3 hr2
 go_wp2_with (refine b5i a1l rfl (.tmp 4) (.tmp 6) rfl rfl b2 (Nat.le_of_eq rfl) rfl hx2.out (a2q _) ?_;intro w4 b4 k4;clear b2)
 have hl:=a5n 32 s
 have e1:(a5o (ab (a0e 32)).cells.toList 0 (List.take 32 (bv (a3e 32 s).fst))).toArray=(bv (a3w 32 s).1).toArray:=by
  rw [List.take_of_length_le (by simpa using hl)]
  exact congrArg _ (b4r (a0e 32) _ 0)
 rw [e1]at b4
 have l1:=a3h 32 s
 refine⟨rfl,by kernel_rfl,?_⟩
 have b5:=b4.drew
 clear b4
 go_wp2_with (first
  | (refine a0s b6p rfl (.tmp 3) rfl rfl b5 (by simpa using l1) ?_)
  | (refine a1s b6p rfl (.tmp 2) (.tmp 8) rfl rfl rfl ((H.out.2.1.kept k4 (by have:=N.out.1;simpa using this)).drew) rfl (by simpa using l1) (a1r _) ?_;intro w5 b6 k6))
 obtain⟨n1,n2,n3⟩:=N.out
 obtain⟨hr,b1,b2,hk⟩:=H.out
 have k5:Kept [g1] w4 w5:=k6
 have b3:=(b1.kept k4 (by simpa using n1))
 refine a6i b6p rfl rfl b6 (by simpa using l1) rfl ⟨rfl,(hr.a5x k4 b2 (by decide) n3).a5x k5 b3 (by decide) n2,?_⟩
 have m0:Kept [r] w w3:=((M.out.1.kept.a0g M.out.2.kept).of0.drew).trans' hk
 exact(m0.a0p k4 (Nat.le_trans M.out.1.kept.size M.out.2.le)).a0p k5 M.out.1.le
theorem d2i(r:Nat)(s:St)(w:World)(h:a6w w r s) :
 Calls Tryz.prog 73 #[.pointer (some ⟨r,0,none⟩)] w fun e w'=>e= .returned (ab (a3w 64 s).1)∧a6w w' r (a3w 64 s).2∧Kept [r] w w':=by
 have h2:=hjd h
 clear h
 go_enter Tryz.func73,Tryz.ntmps73
 go_wp2_with (first
  | ((with_reducible refine a0h (o:=⟨some 2,_,_,_,_,_⟩) rfl rfl b8k ?_);intro g1 w1 m1)
  | ((with_reducible refine a0h (o:=⟨some 3,_,_,_,_,_⟩) rfl rfl b8k ?_);intro g2 w2 m2))
 refine Txt.a2o (by kernel_rfl) (by kernel_rfl) ?_
 go_wp2_with fail
 have hr2:=(h2.out.a0o m1.kept).a0o m2.kept
 have n1:=m2.ne m1.blk.lt
 have n2:=m1.ne h2.out.lt
 have n3:=m2.ne (m1.kept.lt h2.out.lt)
 refine(b8d r 64 s _ hr2.drew (by omega)).mono ?_
 rintro e w3 ⟨x,rfl,hx,hr,hk⟩
 have b1:=(m1.blk.kept m2.kept (by simp)).drew.kept hk (by simp;omega)
 have b2:=m2.blk.drew.kept hk (by simp;omega)
 have H:=hjd (And.intro hr (And.intro b1 (And.intro b2 hk)))
 have M:=hjd (And.intro m1 m2)
 have N:=hjd (And.intro n1 (And.intro n2 n3))
 have hx2:=hjd hx
 clear hr b1 hk m1 m2 hx n1 n2 n3 hr2
 go_wp2_with (refine b5i a1l rfl (.tmp 4) (.tmp 6) rfl rfl b2 (Nat.le_of_eq rfl) rfl hx2.out (a2q _) ?_;intro w4 b4 k4;clear b2)
 have hl:=a5n 64 s
 have e1:(a5o (ab (a0e 64)).cells.toList 0 (List.take 64 (bv (a3e 64 s).fst))).toArray=(bv (a3w 64 s).1).toArray:=by
  rw [List.take_of_length_le (by simpa using hl)]
  exact congrArg _ (b4r (a0e 64) _ 0)
 rw [e1]at b4
 have l1:=a3h 64 s
 refine⟨rfl,by kernel_rfl,?_⟩
 have b5:=b4.drew
 clear b4
 go_wp2_with (first
  | (refine a0s b6o rfl (.tmp 3) rfl rfl b5 (by simpa using l1) ?_)
  | (refine a1s b6o rfl (.tmp 2) (.tmp 8) rfl rfl rfl ((H.out.2.1.kept k4 (by have:=N.out.1;simpa using this)).drew) rfl (by simpa using l1) (a1r _) ?_;intro w5 b6 k6))
 obtain⟨n1,n2,n3⟩:=N.out
 obtain⟨hr,b1,b2,hk⟩:=H.out
 have k5:Kept [g1] w4 w5:=k6
 have b3:=(b1.kept k4 (by simpa using n1))
 refine a6i b6o rfl rfl b6 (by simpa using l1) rfl ⟨rfl,(hr.a5x k4 b2 (by decide) n3).a5x k5 b3 (by decide) n2,?_⟩
 have m0:Kept [r] w w3:=((M.out.1.kept.a0g M.out.2.kept).of0.drew).trans' hk
 exact(m0.a0p k4 (Nat.le_trans M.out.1.kept.size M.out.2.le)).a0p k5 M.out.1.le
end Go.Proofs.YtdbngnlpafcogaaGreat
namespace Go.Proofs.YtdbngnlpafcogaaGreat
open Go.RowKit Go.Mem
theorem a4d.lt{w:World}{base t:Nat}{s:St}(h:a4d w base t s):t < w.heap.size:=by
 obtain⟨v,bs,k,hb,_⟩:=h;exact hb.lt
theorem a4d.d2u{w:World}{base t:Nat}{s:St}(h:a4d w base t s):base≤t:=by
 obtain⟨v,bs,k,hb,_,_,_,_,h,_⟩:=h;exact h
theorem c0e(base t:Nat)(s:St)(w:World)(h:a4d w base t s) :
 Calls Tryz.prog 140 #[.pointer (some ⟨t,0,none⟩)] w fun e w'=>e= .returned (ab (a3w 32 s).1)∧a4d w' base t (a3w 32 s).2∧Kept [t] w w':=by
 have h2:=hjd h
 have hl:=a5n 32 s
 clear h
 go_enter Tryz.func140,Tryz.ntmps140
 go_wp2_with (first
  | ((with_reducible refine a0h (o:=⟨some 2,_,_,_,_,_⟩) rfl rfl b8y ?_);intro g1 w1 m1)
  | ((with_reducible refine a0h (o:=⟨some 3,_,_,_,_,_⟩) rfl rfl b8y ?_);intro g2 w2 m2)
  | (go_at_call 168;refine(b4x base t 32 s _ ((h2.out.a0o m1.kept).a0o m2.kept) (by omega)).mono ?_;rintro e w3 ⟨x,rfl,hx,ho,hr,hk⟩;obtain⟨XA,xc,rfl,hxl,_,hxc⟩:=hx))
 have lt1:=h2.out.lt
 have n1:=m2.ne m1.blk.lt
 have n2:=m1.ne lt1
 have n3:=m2.ne (m1.kept.lt lt1)
 have b1:=(m1.blk.kept m2.kept (by simp)).kept hk (by simp;omega)
 have b2:=m2.blk.kept hk (by simp;omega)
 have hb1:=h2.out.d2u
 have le1:base≤g1:=by have:=m1.le;omega
 have le2:base≤g2:=by have:=m2.le;have:=m1.kept.size;omega
 have H:=hjd (And.intro hr (And.intro b1 hk))
 have B:=hjd b2
 have M:=hjd (And.intro m1 m2)
 have N:=hjd (And.intro n1 (And.intro n2 n3))
 clear hr b1 hk m1 m2 n1 n2 n3 b2 lt1 h2
 generalize hq:a3e 32 s=q at *
 obtain⟨xs,s2⟩:=q
 dsimp only at hxl hxc hl ho
 have hq2:=hjd hq
 clear hq
 go_loopg [9] 1000 (fun g i wk=>∃k:Nat,k≤xs.length∧g + k=1000∧i= .int .i64 k∧Blk wk g2 22 (bv (a5o (a0e 32) 0 (xs.take k))).toArray∧Kept [g2] w3 wk)
 case atStart=>exact⟨0,Nat.zero_le _,rfl,rfl,B.out,Kept.refl _ _⟩
 case round=>
  obtain⟨k,hk,hg,rfl,hb,hkw⟩:=hrel
  by_cases hlt:k < xs.length
  ·obtain⟨xb,xo,rfl,hcell⟩:=hxc (by omega)
   have hcl:=hkw.cell (hcell k (a1h xs[k]) (by simp [hlt])) (by have:=ho (by omega) xb rfl;simp;omega)
   unfold a1h at hcl
   have hfr:=hb.frozen k
   have hcw:=hb.cell k
   have hlk:k < (bv (a5o (a0e 32) 0 (xs.take k))).toArray.size:=by simp [a5o];omega
   rw [Array.getElem?_eq_getElem hlk]at hcw
   have hst:=hb.b2b k (a1h xs[k])
   have e1:(bv (a5o (a0e 32) 0 (xs.take k))).toArray.setIfInBounds k (a1h xs[k])=(bv (a5o (a0e 32) 0 (xs.take (k + 1)))).toArray:=by
    exact a9q (a0e 32) xs k hlt (by simp;omega)
   rw [e1]at hst
   unfold a1h at hst
   have hs2:=hjd hst
   have hk2:=hjd (hkw.setCell (p:=⟨g2,k,none⟩) (.inl (by simp)) (Value.int .u8 xs[k].toNat))
   clear hst hkw hb e1
   go_wp2_with fail
   go_roundg (1000 - (k + 1))
   case measure=>omega
   case rel=>exact⟨k + 1,by omega,by omega,by go_num,hs2.out,hk2.out⟩
  ·obtain rfl:k=xs.length:=by omega
   rw [List.take_of_length_le (Nat.le_refl _)]at hb
   have q1:(a3w 32 s).1=a5o (a0e 32) 0 xs:=by unfold a3w;rw [hq2.out]
   have q2:(a3w 32 s).2=s2:=by unfold a3w;rw [hq2.out]
   rw [←q1]at hb
   have l1:=a3h 32 s
   have hk2:=hjd hkw
   clear hkw q1
   go_wp2_with (first
    | (refine a0s b6p rfl (.tmp 3) rfl rfl hb (by simpa using l1) ?_)
    | (refine a1s b6p rfl (.tmp 2) (.tmp 18) rfl rfl rfl (H.out.2.1.kept hk2.out (by have:=N.out.1;simpa using this)) rfl (by simpa using l1) (a1r _) ?_;intro w5 b6 k6))
   obtain⟨n1,n2,n3⟩:=N.out
   obtain⟨hr,b1,hk3⟩:=H.out
   have k5:Kept [g1] _ w5:=k6
   refine a6i b6p rfl rfl b6 (by simpa using l1) rfl ⟨rfl,(hr.kept hk2.out (by simpa using n3) (by simpa using le2)).kept k5 (by simpa using n2) (by simpa using le1),?_⟩
   have m0:Kept [t] w w3:=(M.out.1.kept.a0g M.out.2.kept).of0.trans' hk3
   exact(m0.a0p hk2.out (Nat.le_trans M.out.1.kept.size M.out.2.le)).a0p k5 M.out.1.le
theorem d6b(base t:Nat)(s:St)(w:World)(h:a4d w base t s) :
 Calls Tryz.prog 142 #[.pointer (some ⟨t,0,none⟩)] w fun e w'=>e= .returned (ab (a3w 64 s).1)∧a4d w' base t (a3w 64 s).2∧Kept [t] w w':=by
 have h2:=hjd h
 have hl:=a5n 64 s
 clear h
 go_enter Tryz.func142,Tryz.ntmps142
 go_wp2_with (first
  | ((with_reducible refine a0h (o:=⟨some 2,_,_,_,_,_⟩) rfl rfl b8k ?_);intro g1 w1 m1)
  | ((with_reducible refine a0h (o:=⟨some 3,_,_,_,_,_⟩) rfl rfl b8k ?_);intro g2 w2 m2)
  | (go_at_call 168;refine(b4x base t 64 s _ ((h2.out.a0o m1.kept).a0o m2.kept) (by omega)).mono ?_;rintro e w3 ⟨x,rfl,hx,ho,hr,hk⟩;obtain⟨XA,xc,rfl,hxl,_,hxc⟩:=hx))
 have lt1:=h2.out.lt
 have n1:=m2.ne m1.blk.lt
 have n2:=m1.ne lt1
 have n3:=m2.ne (m1.kept.lt lt1)
 have b1:=(m1.blk.kept m2.kept (by simp)).kept hk (by simp;omega)
 have b2:=m2.blk.kept hk (by simp;omega)
 have hb1:=h2.out.d2u
 have le1:base≤g1:=by have:=m1.le;omega
 have le2:base≤g2:=by have:=m2.le;have:=m1.kept.size;omega
 have H:=hjd (And.intro hr (And.intro b1 hk))
 have B:=hjd b2
 have M:=hjd (And.intro m1 m2)
 have N:=hjd (And.intro n1 (And.intro n2 n3))
 clear hr b1 hk m1 m2 n1 n2 n3 b2 lt1 h2
 generalize hq:a3e 64 s=q at *
 obtain⟨xs,s2⟩:=q
 dsimp only at hxl hxc hl ho
 have hq2:=hjd hq
 clear hq
 go_loopg [9] 1000 (fun g i wk=>∃k:Nat,k≤xs.length∧g + k=1000∧i= .int .i64 k∧Blk wk g2 32 (bv (a5o (a0e 64) 0 (xs.take k))).toArray∧Kept [g2] w3 wk)
 case atStart=>exact⟨0,Nat.zero_le _,rfl,rfl,B.out,Kept.refl _ _⟩
 case round=>
  obtain⟨k,hk,hg,rfl,hb,hkw⟩:=hrel
  by_cases hlt:k < xs.length
  ·obtain⟨xb,xo,rfl,hcell⟩:=hxc (by omega)
   have hcl:=hkw.cell (hcell k (a1h xs[k]) (by simp [hlt])) (by have:=ho (by omega) xb rfl;simp;omega)
   unfold a1h at hcl
   have hfr:=hb.frozen k
   have hcw:=hb.cell k
   have hlk:k < (bv (a5o (a0e 64) 0 (xs.take k))).toArray.size:=by simp [a5o];omega
   rw [Array.getElem?_eq_getElem hlk]at hcw
   have hst:=hb.b2b k (a1h xs[k])
   have e1:(bv (a5o (a0e 64) 0 (xs.take k))).toArray.setIfInBounds k (a1h xs[k])=(bv (a5o (a0e 64) 0 (xs.take (k + 1)))).toArray:=by
    exact a9q (a0e 64) xs k hlt (by simp;omega)
   rw [e1]at hst
   unfold a1h at hst
   have hs2:=hjd hst
   have hk2:=hjd (hkw.setCell (p:=⟨g2,k,none⟩) (.inl (by simp)) (Value.int .u8 xs[k].toNat))
   clear hst hkw hb e1
   go_wp2_with fail
   go_roundg (1000 - (k + 1))
   case measure=>omega
   case rel=>exact⟨k + 1,by omega,by omega,by go_num,hs2.out,hk2.out⟩
  ·obtain rfl:k=xs.length:=by omega
   rw [List.take_of_length_le (Nat.le_refl _)]at hb
   have q1:(a3w 64 s).1=a5o (a0e 64) 0 xs:=by unfold a3w;rw [hq2.out]
   have q2:(a3w 64 s).2=s2:=by unfold a3w;rw [hq2.out]
   rw [←q1]at hb
   have l1:=a3h 64 s
   have hk2:=hjd hkw
   clear hkw q1
   go_wp2_with (first
    | (refine a0s b6o rfl (.tmp 3) rfl rfl hb (by simpa using l1) ?_)
    | (refine a1s b6o rfl (.tmp 2) (.tmp 18) rfl rfl rfl (H.out.2.1.kept hk2.out (by have:=N.out.1;simpa using this)) rfl (by simpa using l1) (a1r _) ?_;intro w5 b6 k6))
   obtain⟨n1,n2,n3⟩:=N.out
   obtain⟨hr,b1,hk3⟩:=H.out
   have k5:Kept [g1] _ w5:=k6
   refine a6i b6o rfl rfl b6 (by simpa using l1) rfl ⟨rfl,(hr.kept hk2.out (by simpa using n3) (by simpa using le2)).kept k5 (by simpa using n2) (by simpa using le1),?_⟩
   have m0:Kept [t] w w3:=(M.out.1.kept.a0g M.out.2.kept).of0.trans' hk3
   exact(m0.a0p hk2.out (Nat.le_trans M.out.1.kept.size M.out.2.le)).a0p k5 M.out.1.le
theorem d3z(base t most:Nat)(s:St)(w:World)(h:a4d w base t s)(hm:most < 9223372036854775808) :
 Calls Tryz.prog 139 #[.pointer (some ⟨t,0,none⟩),.int .u64 most] w fun e w'=>e= .returned (.int .i64 (a6l most s).1)∧a4d w' base t (a6l most s).2∧Kept [t] w w':=by
 have H:=c4z base t s w h
 unfold a6l
 have hlt:=b4h s
 generalize a8i s=q at *
 obtain⟨v,s2⟩:=q
 dsimp only at H hlt ⊢
 have H2:=hjd H
 clear h H
 by_cases hgt:most < v
 ·go_enter Tryz.func139,Tryz.ntmps139
  go_wp2_with (go_at_call 141;refine H2.out.mono ?_;rintro e w1 ⟨rfl,⟨v1,bs,k,hb,hr,h1,h2,h3,h4,h5⟩,hk⟩;have hf:=hb.frozen 2;have c1:=hb.cell 2;simp at c1;have hb2:=hjd (And.intro hb (And.intro hr (And.intro h3 h5)));have hk2:=hjd hk;clear hb hr hk h3 h5)
  go_ret
  obtain⟨hb,hr,h3,h5⟩:=hb2.out
  have kk:Kept [t] w1 (w1.setCell ⟨t,2,none⟩ (.int .i64 12)):=(Kept.refl [t] w1).setCell (.inl (by simp)) _
  refine⟨rfl,⟨v1,bs,k,by simpa using hb.b2b 2 (.int .i64 12),hr.kept kk (fun hn g hg hm=>?_),h1,h2,h3,h4,h5⟩,hk2.out.trans' kk⟩
  have:=h5 hn g hg
  have:g=t:=by simpa using hm
  omega
 ·go_enter Tryz.func139,Tryz.ntmps139
  go_wp2_with (go_at_call 141;refine H2.out.mono ?_;rintro e w1 ⟨rfl,hr,hk⟩;have hr2:=hjd hr;have hk2:=hjd hk;clear hr hk)
  go_ret
  exact⟨rfl,hr2.out,hk2.out⟩
theorem d7v(base t:Nat)(s:St)(w:World)(h:a4d w base t s) :
 Calls Tryz.prog 75 #[.pointer (some ⟨t,0,none⟩)] w fun e w'=>e= .returned (.int .i64 (a8j s))∧Kept [] w w':=by
 obtain⟨bad,ls⟩:=s
 obtain⟨v,bs,k,hb,hr,hkl,hbl,hls,_⟩:=h
 dsimp only at hls hb
 have c0:=hb.cell 0
 have c1:=hb.cell 1
 have c2:=hb.cell 2
 simp at c0 c1 c2
 obtain⟨A,c,rfl,_,_,_⟩:=hr
 have hl:ls.length=bs.length - k:=by rw [hls,List.length_drop]
 clear hb hls
 unfold a8j
 dsimp only
 by_cases h0:bad=0
 ·subst h0
  rw [if_pos rfl]
  by_cases hl2:k < bs.length
  ·rw [if_pos (by omega)]
   clear hl
   go_enter Tryz.func75,Tryz.ntmps75
   go_wp2_with fail
   go_quiet (fail)
   go_wp2_with fail
   go_ret
   exact⟨rfl,(Kept.refl _ w).drewN _⟩
  ·rw [if_neg (by omega)]
   clear hl
   go_enter Tryz.func75,Tryz.ntmps75
   go_wp2_with fail
   go_quiet (fail)
   go_wp2_with fail
   go_ret
   exact⟨rfl,(Kept.refl _ w).drewN _⟩
 ·rw [if_neg h0]
  clear hl
  go_enter Tryz.func75,Tryz.ntmps75
  go_wp2_with fail
  go_quiet (fail)
  go_wp2_with fail
  go_ret
  exact⟨rfl,(Kept.refl _ w).drewN _⟩
/-! ### The reader that is nil -/
end Go.Proofs.YtdbngnlpafcogaaGreat
namespace Go.Proofs.YtdbngnlpafcogaaGreat
open Go.RowKit Go.Mem Go.Txt
def a2r:Nat→St→List Upd × Bool × St
 | 0,s=>([],false,s)
 | n + 1,s=>if s.1=0 then
    (⟨(a3w 32 s).1,wrap64 ((a8i (a3w 32 s).2).1:Int),(a3w 32 (a8i (a3w 32 s).2).2).1,(a3w 64 (a3w 32 (a8i (a3w 32 s).2).2).2).1⟩ :: (a2r n (a3w 64 (a3w 32 (a8i (a3w 32 s).2).2).2).2).1,
      decide (64 < (a8i (a3w 32 s).2).1) || (a2r n (a3w 64 (a3w 32 (a8i (a3w 32 s).2).2).2).2).2.1,(a2r n (a3w 64 (a3w 32 (a8i (a3w 32 s).2).2).2).2).2.2)
   else([],false,s)
def b3a(bs:List UInt8):List Upd × Bool × St:=a2r (a6l 65536 (0,bs)).1 (a6l 65536 (0,bs)).2
def a4w(bs:List UInt8):List Upd × Int:=
 if a8j (b3a bs).2.2≠0 then([],a8j (b3a bs).2.2)else if (b3a bs).2.1=true then([],13)else((b3a bs).1,0)
theorem c1f:∀(n:Nat) (s:St),∀u∈(a2r n s).1,UL u
 | 0,_=>by intro u hu;cases hu
 | n + 1,s=>by
   intro u hu
   unfold a2r at hu
   split at hu
   ·rcases List.mem_cons.1 hu with rfl | h
    ·exact⟨a3h _ _,a3h _ _,a3h _ _⟩
    ·exact c1f n _ u h
   ·cases hu
theorem b1b:∀(n:Nat) (s:St),(a2r n s).1.length≤n
 | 0,_=>by simp [a2r]
 | n + 1,s=>by
   unfold a2r
   split
   ·have:=b1b n (a3w 64 (a3w 32 (a8i (a3w 32 s).2).2).2).2
    simp only [List.length_cons]
    omega
   ·simp
theorem d2w{n:Nat}{s:St}(h:s.1≠0):a3e n s=([],s):=by unfold a3e;rw [if_neg h]
theorem a8v:∀(n:Nat) {s:St},s.1≠0→a2r n s=([],false,s)
 | 0,_,_=>rfl
 | n + 1,s,h=>by unfold a2r;rw [if_neg h]
theorem a7l{n:Nat}{s:St}(h:s.1=0):a2r (n + 1) s=(⟨(a3w 32 s).1,wrap64 ((a8i (a3w 32 s).2).1:Int),(a3w 32 (a8i (a3w 32 s).2).2).1,(a3w 64 (a3w 32 (a8i (a3w 32 s).2).2).2).1⟩ :: (a2r n (a3w 64 (a3w 32 (a8i (a3w 32 s).2).2).2).2).1,decide (64 < (a8i (a3w 32 s).2).1) || (a2r n (a3w 64 (a3w 32 (a8i (a3w 32 s).2).2).2).2).2.1,(a2r n (a3w 64 (a3w 32 (a8i (a3w 32 s).2).2).2).2).2.2):=by
 conv=>lhs;unfold a2r
 rw [if_pos h]
theorem b6t{n:Nat}{s:St}(h:(a3e n s).2.1=0):s.1=0∧n≤s.2.length∧s.2=(a3e n s).1 ++ (a3e n s).2.2∧(a3e n s).1.length=n:=by
 have h0:s.1=0:=by
  by_cases h0:s.1=0
  ·exact h0
  ·rw [d2w h0]at h;exact h
 unfold a3e at h ⊢
 rw [if_pos h0]at h ⊢
 by_cases hn:n≤s.2.length
 ·rw [if_pos hn]at h ⊢
  refine⟨h0,hn,?_,?_⟩
  ·simp
  ·simp;omega
 ·rw [if_neg hn]at h
  cases h
theorem b4f{n:Nat}{s:St}(h:(a3w n s).2.1=0):s.1=0∧s.2=(a3w n s).1 ++ (a3w n s).2.2:=by
 obtain⟨h0,_,h2,h3⟩:=b6t (n:=n) (s:=s) h
 refine⟨h0,?_⟩
 unfold a3w
 rw [b8i _ _ (by rw [h3];simp)]
 exact h2
theorem d9m{l:List UInt8}(h:l.length=8):be8 (beV l)=l:=by
 match l,h with
 | [a,b,c,d,e,f,g,k],_=>
   have ha:=UInt8.toNat_lt a
   have hb:=UInt8.toNat_lt b
   have hc:=UInt8.toNat_lt c
   have hd:=UInt8.toNat_lt d
   have he:=UInt8.toNat_lt e
   have hf:=UInt8.toNat_lt f
   have hg:=UInt8.toNat_lt g
   have hk:=UInt8.toNat_lt k
   have e8:∀n:Nat,be8 n= [UInt8.ofNat (n / 256 ^ 7),UInt8.ofNat (n / 256 ^ 6),UInt8.ofNat (n / 256 ^ 5),UInt8.ofNat (n / 256 ^ 4),UInt8.ofNat (n / 256 ^ 3),UInt8.ofNat (n / 256 ^ 2),UInt8.ofNat (n / 256 ^ 1),UInt8.ofNat (n / 256 ^ 0)]:=fun n=>rfl
   rw [e8]
   simp only [beV,List.foldl_cons,List.foldl_nil]
   have t:∀(n:Nat) (x:UInt8),n % 256=x.toNat→UInt8.ofNat n=x:=fun n x hn=>by
    apply UInt8.toNat_inj.1
    rw [UInt8.toNat_ofNat']
    exact hn
   rw [t _ a (by omega),t _ b (by omega),t _ c (by omega),t _ d (by omega),t _ e (by omega),t _ f (by omega),t _ g (by omega),t _ k (by omega)]
theorem c2f{s:St}(h:(a8i s).2.1=0):s.1=0∧s.2=be8 (a8i s).1 ++ (a8i s).2.2:=by
 obtain⟨h0,_,h2,h3⟩:=b6t (n:=8) (s:=s) h
 refine⟨h0,?_⟩
 unfold a8i
 rw [d9m h3]
 exact h2
theorem b6w:∀(n:Nat) (s:St),(a2r n s).2.2.1=0→(a2r n s).2.1=false→s.1=0∧(a2r n s).1.length=n∧s.2=a5r (a2r n s).1 ++ (a2r n s).2.2.2
 | 0,s,h,_=>⟨h,rfl,by simp [a2r,a5r]⟩
 | n + 1,s,h,hf=>by
   by_cases h0:s.1=0
   ·have e:=a7l (n:=n) h0
    rw [e]at h hf ⊢
    dsimp only at h hf ⊢
    generalize ha:a3w 32 s=A at *
    generalize hb:a8i A.2=Bn at *
    generalize hc:a3w 32 Bn.2=C at *
    generalize hd:a3w 64 C.2=D at *
    rw [Bool.or_eq_false_iff]at hf
    obtain⟨d0,dl,d2⟩:=b6w n D.2 h hf.2
    have hD:=b4f (n:=64) (s:=C.2) (by rw [hd];exact d0)
    have hC:=b4f (n:=32) (s:=Bn.2) (by rw [hc];exact hD.1)
    have hB:=c2f (s:=A.2) (by rw [hb];exact hC.1)
    have hA:=b4f (n:=32) (s:=s) (by rw [ha];exact hB.1)
    rw [hd]at hD
    rw [hc]at hC
    rw [hb]at hB
    rw [ha]at hA
    have hv:¬(64 < Bn.1):=of_decide_eq_false hf.1
    have hver:b3g (wrap64 (Bn.1:Int))=Bn.1:=by
     have e1:wrap64 (Bn.1:Int)=(Bn.1:Int):=IntWalk.wrap64_in _ (by omega)
     rw [e1]
     unfold b3g
     omega
    refine⟨h0,by simp [dl],?_⟩
    rw [hA.2,hB.2,hC.2,hD.2,d2]
    simp [a5r,d5y,hver]
   ·rw [a8v _ h0]at h
    exact absurd h h0
theorem d4u{most:Nat}{s:St}(h:(a6l most s).2.1=0):s.1=0∧s.2=be8 (a6l most s).1 ++ (a6l most s).2.2:=by
 unfold a6l at h ⊢
 split at h
 ·cases h
 ·rename_i hn
  rw [if_neg hn]
  exact c2f h
theorem b7h{bs:List UInt8}(h:(a4w bs).2=0):a4g (a4w bs).1=bs:=by
 unfold a4w at h ⊢
 by_cases hd:a8j (b3a bs).2.2≠0
 ·rw [if_pos hd]at h
  exact absurd h hd
 ·rw [if_neg hd]at h ⊢
  by_cases hf:(b3a bs).2.1=true
  ·rw [if_pos hf]at h
   cases h
  ·rw [if_neg hf]
   have hd2:a8j (b3a bs).2.2=0:=Decidable.not_not.1 hd
   have hz:(b3a bs).2.2.1=0∧(b3a bs).2.2.2= []:=by
    unfold a8j at hd2
    split at hd2
    ·rename_i h0
     split at hd2
     ·cases hd2
     ·rename_i hl
      exact⟨h0,List.eq_nil_of_length_eq_zero (by omega)⟩
    ·rename_i h0
     exact absurd hd2 h0
   have hf2:(b3a bs).2.1=false:=by simpa using hf
   obtain⟨p0,pl,p2⟩:=b6w _ _ hz.1 hf2
   have hb:=d4u (most:=65536) (s:=(0,bs)) p0
   have e:(b3a bs).1.length=(a6l 65536 (0,bs)).1:=pl
   unfold a4g
   rw [e]
   have p2':(a6l 65536 (0,bs)).2.2=a5r (b3a bs).1 ++ (b3a bs).2.2.2:=p2
   rw [hz.2,List.append_nil]at p2'
   rw [←p2']
   exact hb.2.symm
end Go.Proofs.YtdbngnlpafcogaaGreat
namespace Go.Mem
open Go.RowKit Go.Txt
section
variable {P:Program} {w:World} {a:Act} {ops:Array Oper} {rest:List Oper} {o:Oper} {Q:Exit→Act→World→Prop} {t bt:TypeId} {k g off:Nat}
theorem c4o{pre mid post q:List Value}(h:Blk w g bt (pre ++ mid ++ post).toArray)(hp:pre.length=off)(hm:mid.length=q.length):Blk (w.setCells g off q) g bt (pre ++ q ++ post).toArray:=by
 obtain⟨cs',h1,h2,h3⟩:=Blk.setCells q off _ _ h
 have e:cs'=(pre ++ q ++ post).toArray:=by
  refine Array.ext_getElem? fun j=>?_
  rw [h3 j]
  simp only [List.size_toArray,List.length_append,List.getElem?_toArray]at h2 ⊢
  by_cases h4:j < off
  ·rw [if_neg (by omega),List.append_assoc,List.append_assoc,List.getElem?_append_left (by omega),List.getElem?_append_left (by omega)]
  ·by_cases h5:j < off + q.length
   ·rw [if_pos (by omega),List.append_assoc,List.getElem?_append_right (by omega),List.getElem?_append_left (by omega),hp]
   ·rw [if_neg (by omega),List.append_assoc,List.append_assoc,List.getElem?_append_right (by omega),List.getElem?_append_right (by omega),List.getElem?_append_right (by omega),List.getElem?_append_right (by omega),hm]
 rw [←e]
 exact h1
theorem a1q(T:RowT P t k)(hgd:Region.wanted o (yielded ops a.tmps)=true)(x y:Operand)(ho:o.op= .store t x y)(hx:a.eval x= .pointer (some ⟨g,off,none⟩)){pre mid post q:List Value}(hy:a.eval y= .agg q.toArray)
 (hb:Blk w g bt (pre ++ mid ++ post).toArray) (hp:pre.length=off) (hm:mid.length=k) (hq:q.length=k) (h1:q.toArray.all (·.oneCell')=true)
 (h:∀w',Blk w' g bt (pre ++ q ++ post).toArray→Kept [g] w w'→wpList P ops Q rest (a.put o.dst undef) w'):wpList P ops Q (o :: rest) a w:=
 a1m hgd fun _ hK=>wp_store_mid t x y ho g off q.toArray hx hy (hb.there (by simp;omega)) (by rw [T.2,List.size_toArray,hq]) h1 (hK _ _ (h _ (c4o hb hp (by rw [hm,hq])) (Kept.setCells q off w)))
end
end Go.Mem
