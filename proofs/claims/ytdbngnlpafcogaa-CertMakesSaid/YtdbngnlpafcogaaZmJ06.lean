/-
  Certificates: which are right (Check).
  The ring: law 07's first lines.
  The document's ring: What.
  The ring: Key; a ring that is none; the document's Fits.
  Certificates: a ring's quorum makes them, and checks them.
  The certificates' laws: what is made of shares is right (plain).
  The certificates' laws: shares that come one behind the other (plain).
  The certificates' laws: what CertMakes knows of the shares so far (plain).
  The certificates' laws: what must be answered ahead of everything else.
  The certificates' laws: a certificate of one's own that is turned.
  The certificates' laws: numbers and places that the turns need.
  The certificates' laws: what the law wants, beside what Check says (plain).
  The certificates' laws: words of the laws' walks (as at ct9's head; for texts that do not import ct9).
  The certificates' laws: some of the shares, as bytes pick them (some).
  A part of a block is overwritten.
  The certificates' laws: what CertMakes has in memory.
-/
import Derived.Test.YtdbngnlpafcogaaZmJ05
import Derived.Test.YtdbngnlpafcogaaZmJ03
import Derived.Test.YtdbngnlpafcogaaZmCt4
import Derived.Deep.CutBlock
import Derived.Deep.DeepCutAuto
import Derived.Test.YtdbngnlpafcogaaZmFam
set_option maxRecDepth 100000
namespace Go.Proofs.Ytdbngnlpafcogaa
open Go.RowKit Go.Mem Go.Txt
theorem sigsT5:SliceT Try.prog 61 24 64 64 (ab (a0q 64)):=⟨Try.underlying61,by kernel_rfl,rfl,by omega⟩
theorem e0v:SliceT Try.prog 54 3 1 8 (.int .i64 0):=⟨Try.underlying54,by kernel_rfl,rfl,by omega⟩
def c2f(n:Nat):Int→List Int→Bool
 | _,[]=>true
 | last,i :: l=>decide (last < i) && decide (i < n) && c2f n i l
theorem d3c{n:Nat}:∀(l:List Int) (last:Int),c2f n last l=true→∀i∈l,last < i∧i < n
 | [],_,_,_,h=>by cases h
 | x :: l,last,h,i,hi=>by
   simp only [c2f,Bool.and_eq_true,decide_eq_true_eq]at h
   rcases List.mem_cons.1 hi with rfl | hi
   ·exact h.1
   ·have:=d3c l x h.2 i hi
    exact⟨by omega,this.2⟩
theorem b0e{u:World}{g o:Nat}{xs:List Value}(h:u.rangeAt g o xs){j:Nat}{v:Value}(hj:xs[j]?=some v):u.cell? ⟨g,o + j,none⟩=some v:=h j v hj
def a5f(q n:Nat)(ok:Nat→List UInt8→Bool)(ns:List Int)(gs:List (List UInt8)):Int:=
 if ns.length≠q∨gs.length≠q then 80 else if c2f n (-1) ns=false then 81 else if∀k,k < ns.length→ok (ns.getD k 0).toNat (gs.getD k [])=true then 0 else 60
structure CK (g5:Nat) (S:List Nat) (w:World) (J:World→Prop) (ns:List Int) (gs:List (List UInt8)) (body:List UInt8) (bw sv gv:Value) (u:World):Prop where
 j:J u
 k:Kept S w u
 b:Blk u g5 63 #[bw,sv,gv]
 s:Rd u 1 sv ns.length (iv ns)
 g:Rd u 64 gv gs.length (gs.flatMap bv)
 m:a2b body bw u
theorem CK.step{g5:Nat}{S:List Nat}{w:World}{J:World→Prop}{ns:List Int}{gs:List (List UInt8)}{body:List UInt8}{bw sv gv:Value}
 (hR:∀u u' s v n xs,0 < s→J u→Kept S u u'→Rd u s v n xs→Rd u' s v n xs) (hg:g5∉S) (u u':World) (h:CK g5 S w J ns gs body bw sv gv u) (hk:Kept S u u') (hj:J u'):CK g5 S w J ns gs body bw sv gv u':=
 ⟨hj,h.k.trans' hk,h.b.kept hk hg,hR _ _ _ _ _ _ (by omega) h.j hk h.s,hR _ _ _ _ _ _ (by omega) h.j hk h.g,hR _ _ _ _ _ _ (by omega) h.j hk h.m⟩
def e1x(b s g:Value):Value:=.agg #[b,s,g]
theorem c5o{ns:List Int}{k:Nat}(h:k < ns.length):iv ns=iv (ns.take k) ++ ([.int .i64 (ns.getD k 0)] ++ iv (ns.drop (k + 1))):=by
 have e:ns=ns.take k ++ (ns.getD k 0 :: ns.drop (k + 1)):=by
  rw [List.getD_eq_getElem?_getD,List.getElem?_eq_getElem h]
  simp
 conv=>lhs;rw [e]
 simp [iv]
theorem d7a{gs:List (List UInt8)}{k:Nat}(h:k < gs.length)(hl:∀g∈gs,g.length=64):∃pre post,gs.flatMap bv=pre ++ (bv (gs.getD k []) ++ post)∧pre.length=k * 64:=by
 have e:gs=gs.take k ++ (gs.getD k [] :: gs.drop (k + 1)):=by
  rw [List.getD_eq_getElem?_getD,List.getElem?_eq_getElem h]
  simp
 refine⟨(gs.take k).flatMap bv,(gs.drop (k + 1)).flatMap bv,?_,?_⟩
 ·conv=>lhs;rw [e]
  rw [List.flatMap_append,List.flatMap_cons]
 ·have:∀m,m≤gs.length→((gs.take m).flatMap bv).length=m * 64:=by
   intro m
   induction m with
   | zero=>simp
   | succ m ih=>
     intro hm
     rw [List.take_succ_eq_append_getElem (by omega),List.flatMap_append,List.length_append,ih (by omega)]
     simp [hl _ (List.getElem_mem _)]
     omega
  exact this k (by omega)
theorem d7i{gs:List (List UInt8)}{k:Nat}(h:k < gs.length)(hl:∀g∈gs,g.length=64):(gs.getD k []).length=64:=by
 rw [List.getD_eq_getElem?_getD,List.getElem?_eq_getElem h]
 exact hl _ (List.getElem_mem _)
theorem d9f{ns:List Int}{k:Nat}(h:k < ns.length):ns.drop k=ns.getD k 0 :: ns.drop (k + 1):=by
 rw [List.getD_eq_getElem?_getD,List.getElem?_eq_getElem h]
 simp
set_option maxHeartbeats 3200000 in
theorem c8i{ns:List Int}{gs:List (List UInt8)}{body:List UInt8}{rp:Addr}{q n:Nat}{tag:UInt8}{S:List Nat}{J:World→Prop}{ok:Nat→List UInt8→Bool}(bw sv gv:Value)(w:World)
 (hb:a2b body bw w) (hs:Rd w 1 sv ns.length (iv ns)) (hg:Rd w 64 gv gs.length (gs.flatMap bv)) (hgl:∀g∈gs,g.length=64) (hn7:n≤7) (hJ0:J w) (hlen:ns.length≤140737488351900) (hlen2:gs.length≤140737488351900) (hq7:q≤7)
 (hSlt:∀k∈S,k < w.heap.size) (hJ:∀u u' X,(∀k∈X,w.heap.size≤k)→J u→Kept X u u'→J u') (hR:∀u u' s v n xs,0 < s→J u→Kept S u u'→Rd u s v n xs→Rd u' s v n xs)
 (co:∀(i:Nat) sig u v,i < n→sig.length=64→a2b body v u→J u→Calls Try.prog 15 #[.pointer (some rp),.int .i64 (i:Int),.int .u8 (tag.toNat:Int),v,ab sig] u fun e w'=>e= .returned (.bool (ok i sig))∧J w'∧Kept S u w')
 (cq:∀u,J u→Calls Try.prog 21 #[.pointer (some rp)] u fun e w'=>e= .returned (.int .i64 (q:Int))∧w'=u)
 (cz:∀u,J u→Calls Try.prog 19 #[.pointer (some rp)] u fun e w'=>e= .returned (.int .i64 (n:Int))∧w'=u) :
 Calls Try.prog 34 #[.pointer (some rp),.int .u8 (tag.toNat:Int),e1x bw sv gv] w fun e w'=>e= .returned (.int .i64 (a5f q n ok ns gs))∧J w'∧Kept S w w':=by
 replace hSlt:=hjd hSlt
 replace hJ:=hjd hJ
 replace hR:=hjd hR
 replace co:=hjd co
 replace cq:=hjd cq
 replace cz:=hjd cz
 replace hgl:=hjd hgl
 replace hb:=hjd hb
 replace hJ0:=hjd hJ0
 replace hn7:=hjd hn7
 replace hq7:=hjd hq7
 have hbS:=hb.out
 obtain⟨BA,bc,rfl,e1⟩:=hbS
 clear e1
 obtain⟨SA,sc,rfl,e1⟩:=id hs
 clear e1
 obtain⟨GA,gc,rfl,e1⟩:=id hg
 clear e1
 replace hs:=hjd hs
 replace hg:=hjd hg
 unfold e1x
 obtain⟨R,hRes⟩:∃R,a5f q n ok ns gs=R:=⟨_,rfl⟩
 replace hRes:=hjd hRes
 rw [hRes.out]
 go_enter Try.func34,Try.ntmps34
 go_upto_region 1 with(first
  | ((with_reducible refine a0e 5 ?_);(refine a0p (o:=⟨some 5,_,_,_,_,_⟩) (v:=.agg #[.slice BA body.length bc,.slice SA ns.length sc,.slice GA gs.length gc]) rfl (.tmp 2) rfl rfl ?_);intro g5 w5 m5
     have N5:=hjd (show g5∉S from fun h=>by have:=hSlt.out _ h;have:=m5.le;omega);have B5:=hjd (show Blk w5 g5 63 #[.slice BA body.length bc,.slice SA ns.length sc,.slice GA gs.length gc]from m5.blk);have K5:=hjd m5.kept;clear m5))
 have kd:=(Kept.refl [] w5).drew
 replace B5:=hjd (B5.out.kept kd (by simp))
 replace K5:=hjd (K5.out.a0f kd)
 have J1:=hjd (hJ.out _ _ [] (by simp) hJ0.out K5.out)
 replace hs:=hjd (hs.out.a0o K5.out)
 replace hg:=hjd (hg.out.a0o K5.out)
 replace hb:=hjd (a2b.a0o hb.out K5.out)
 have q1:=B5.out.cell 1
 have q2:=B5.out.cell 2
 by_cases h1:ns.length=q
 ·have b1:((ns.length:Int) !=(q:Int))=false:=by simp [h1]
  by_cases h2:gs.length=q
  ·have b2:((gs.length:Int) !=(q:Int))=false:=by simp [h2]
   replace h1:=hjd h1
   replace h2:=hjd h2
   refine Txt.a1n [4,12] (fun u=>Blk u g5 63 #[.slice BA body.length bc,.slice SA ns.length sc,.slice GA gs.length gc]) [[_,_,_,_,_,_,_,_],[_,_,_,_,_,_,_,_],[_,_]] (by kernel_rfl) (by kernel_rfl) rfl B5.out (Txt.a0g ?_)
   go_wp2_with (first
    | (go_at_call 21;(with_reducible refine(cq.out _ J1.out).mono ?_);rintro e v19 ⟨rfl,rfl⟩))
   refine And.intro rfl (And.intro B5.out ?_)
   unfold Txt.a4k
   go_wp2_with (first
    | (go_at_call 21;(with_reducible refine(cq.out _ J1.out).mono ?_);rintro e v27 ⟨rfl,rfl⟩))
   refine And.intro rfl (And.intro B5.out ?_)
   unfold Txt.a4k
   go_wp2_with fail
   refine And.intro rfl (And.intro B5.out (Txt.a1i ⟨⟨by kernel_rfl,?_⟩,?_⟩))
   ·intro j hj o ho hw
    have hj2:j=4∨j=12:=by simpa using hj
    rcases hj2 with rfl | rfl <;> cases ho
    ·exact⟨16,rfl,fun u hu=>a1s rfl (fun w=>by kernel_rfl) rfl (hu.cell 1)⟩
    ·exact⟨24,rfl,fun u hu=>a1s rfl (fun w=>by kernel_rfl) rfl (hu.cell 2)⟩
   have h12:=hjd (show ¬(ns.length≠q∨gs.length≠q)from fun h=>h.elim (fun h=>h h1.out) fun h=>h h2.out)
   have hl7:=hjd (show ns.length≤7 by have:=h1.out;have:=hq7.out;omega)
   clear b1 b2 h1
   have C1:=hjd (show CK g5 S w J ns gs body (.slice BA body.length bc) (.slice SA ns.length sc) (.slice GA gs.length gc) w5.drew from⟨J1.out,K5.out.of0,B5.out,hs.out,hg.out,hb.out⟩)
   clear J1 K5 B5 hs hg hb
   go_upto_region 5 with(first
    | ((with_reducible refine a0e 31 ?_);refine a0v (by kernel_rfl) (a1s rfl (fun w=>by kernel_rfl) rfl (C1.out.b.cell 1)) ?_))
   go_loopg [7,33] ns.length (fun f x7 x33 wk=>∃(j:Nat) (last:Int),j≤ns.length∧f + j=ns.length∧x33= .int .i64 (j:Int)∧x7= .int .i64 last∧Hid (-1≤last)∧Hid (c2f n (-1) ns=c2f n last (ns.drop j))∧Hid (CK g5 S w J ns gs body (.slice BA body.length bc) (.slice SA ns.length sc) (.slice GA gs.length gc) wk))
   case atStart=>exact⟨0,-1,Nat.zero_le _,by omega,rfl,rfl,hjd (by omega),hjd rfl,C1⟩
   case round=>
    obtain⟨j,last,hj,hf,rfl,rfl,hl1,ho,CC⟩:=hrel
    by_cases hlt:j < ns.length
    ·obtain⟨i,hi⟩:∃i,ns.getD j 0=i:=⟨_,rfl⟩
     have hd:=d9f hlt
     have hsp:=c5o hlt
     rw [hi]at hd hsp
     have ho2:=ho.out
     rw [hd]at ho2
     obtain⟨sb,so,sc2,e,e2,e3⟩:=CC.out.s.at_ (by omega)
     clear e2 e3
     cases e
     have E:=Rd.elem (i:=j) CC.out.s hsp (by simp [iv];omega) (by omega)
     have q0:=b0e E (j:=0) rfl
     rw [Nat.add_zero,Nat.mul_one]at q0
     clear E hsp hd hi
     replace ho2:=hjd ho2
     go_upto_region 7 with(first
      | ((with_reducible refine a0e 35 ?_);refine a3x (o:=⟨some 35,_,_,_,_,_⟩) e0v rfl (.tmp 31) (.tmp 33) rfl rfl rfl hlt ?_))
     by_cases hle:i≤last
     ·have e81:R=81:=by
       have h2:c2f n (-1) ns=false:=by rw [ho2.out];simp [c2f,show ¬last < i by omega]
       rw [←hRes.out];unfold a5f;rw [if_neg h12.out,if_pos h2]
      go_wp2_with fail
      go_ret
      exact⟨by rw [e81];rfl,CC.out.j,CC.out.k⟩
     ·by_cases hge:(n:Int)≤i
      ·have e81:R=81:=by
        have h2:c2f n (-1) ns=false:=by rw [ho2.out];simp [c2f,show ¬i < n by omega]
        rw [←hRes.out];unfold a5f;rw [if_neg h12.out,if_pos h2]
       go_wp2_with (first
        | (go_at_call 19;(with_reducible refine(cz.out _ CC.out.j).mono ?_);rintro e v43 ⟨rfl,rfl⟩))
       go_ret
       exact⟨by rw [e81];rfl,CC.out.j,CC.out.k⟩
      ·have ho3:=hjd (show c2f n (-1) ns=c2f n i (ns.drop (j + 1))from by rw [ho2.out];simp [c2f,show last < i by omega,show i < n by omega])
       have hli:=hjd (show -1≤i by have:=hl1.out;omega)
       clear ho ho2 hl1
       go_wp2_with (first
        | (go_at_call 19;(with_reducible refine(cz.out _ CC.out.j).mono ?_);rintro e v43 ⟨rfl,rfl⟩))
       go_roundg (ns.length - (j + 1))
       case measure=>omega
       case rel=>exact⟨j + 1,i,by omega,by omega,by go_num,rfl,hli,ho3,CC⟩
    ·obtain rfl:j=ns.length:=by omega
     have hord:=hjd (show c2f n (-1) ns=true from by rw [ho.out,List.drop_length];rfl)
     clear ho hl1 hf hj hlt
     go_upto_region 12 with(first
      | ((with_reducible refine a0e 49 ?_);refine a0v (by kernel_rfl) (a1s rfl (fun w=>by kernel_rfl) rfl (CC.out.b.cell 1)) ?_))
     go_loopg [51] ns.length (fun f x51 wk=>∃k:Nat,k≤ns.length∧f + k=ns.length∧x51= .int .i64 (k:Int)∧Hid (∀i,i < k→ok (ns.getD i 0).toNat (gs.getD i [])=true)∧Hid (CK g5 S w J ns gs body (.slice BA body.length bc) (.slice SA ns.length sc) (.slice GA gs.length gc) wk))
     case atStart=>exact⟨0,Nat.zero_le _,by omega,rfl,hjd (by simp),CC⟩
     case round=>
      clear CC
      obtain⟨k,hk,hf,rfl,ha,CC⟩:=hrel
      by_cases hlt:k < ns.length
      ·have hgk:=hjd (show k < gs.length by have:=h12.out;omega)
       obtain⟨m,hi,hm⟩:∃m:Nat,ns.getD k 0=(m:Int)∧m < n:=by
        have hmem:ns.getD k 0∈ns:=by rw [List.getD_eq_getElem?_getD,List.getElem?_eq_getElem hlt];exact List.getElem_mem _
        have:=d3c ns (-1) hord.out _ hmem
        exact⟨(ns.getD k 0).toNat,by omega,by omega⟩
       obtain⟨sg,hsg⟩:∃sg,gs.getD k []=sg:=⟨_,rfl⟩
       have hsp:=c5o hlt
       obtain⟨pre,post,hp,hpl⟩:=d7a hgk.out hgl.out
       have hl64:=d7i hgk.out hgl.out
       rw [hi]at hsp
       rw [hsg]at hp hl64
       have hk1:=hjd (show ok (ns.getD k 0).toNat (gs.getD k [])=ok m sg from by rw [hi,hsg];rfl)
       obtain⟨sb,so,sc2,e,e2,e3⟩:=CC.out.s.at_ (by omega)
       clear e2 e3
       cases e
       obtain⟨gb,go,gc2,e,e2,e3⟩:=CC.out.g.at_ (by have:=hgk.out;omega)
       clear e2 e3
       cases e
       have E:=Rd.elem (i:=k) CC.out.s hsp (by simp [iv];omega) (by omega)
       have q0:=b0e E (j:=0) rfl
       rw [Nat.add_zero,Nat.mul_one]at q0
       clear E hsp hi hsg
       replace hl64:=hjd hl64
       replace hp:=hjd hp
       replace hpl:=hjd hpl
       replace hm:=hjd hm
       go_upto_region 14 with(first
        | ((with_reducible refine a0e 54 ?_);refine a3x (o:=⟨some 54,_,_,_,_,_⟩) e0v rfl (.tmp 49) (.tmp 51) rfl rfl rfl hlt ?_))
       clear q0
       have kd:=(Kept.refl [] wr).drew
       replace CC:=hjd (CC.out.step hR.out N5.out _ _ kd.of0 (hJ.out _ _ [] (by simp) CC.out.j kd))
       clear kd
       have E:=hjd (Rd.elem (i:=k) CC.out.g hp.out hpl.out (by have:=hgk.out;omega))
       refine Txt.a1n [] (fun _=>True) [[_,_,_,_,_,_,_,_,_,_,_],[_]] (by kernel_rfl) (by kernel_rfl) rfl trivial (Txt.a0g ?_)
       go_wp2_with (first
        | ((with_reducible refine a0e 60 ?_);refine a0v (by kernel_rfl) (a1s rfl (fun w=>by kernel_rfl) rfl (CC.out.b.cell 0)) ?_)
        | ((with_reducible refine a0e 62 ?_);refine a0v (by kernel_rfl) (a1s rfl (fun w=>by kernel_rfl) rfl (CC.out.b.cell 2)) ?_)
        | ((with_reducible refine a0e 64 ?_);refine a3x (o:=⟨some 64,_,_,_,_,_⟩) sigsT5 (by kernel_rfl) (.tmp 62) (.tmp 63) rfl rfl rfl hgk.out ?_)
        | ((with_reducible refine a0e 65 ?_);refine a0z (o:=⟨some 65,_,_,_,_,_⟩) (cs:=bv sg) Q.a8z (by kernel_rfl) (.tmp 64) rfl rfl E.out (by simpa using hl64.out) ?_)
        | (go_at_call 15;(with_reducible refine(co.out m sg _ _ hm.out hl64.out CC.out.m CC.out.j).mono ?_);rintro e v66 ⟨rfl,Jn,kn⟩
           replace CC:=hjd (CC.out.step hR.out N5.out _ _ kn Jn)
           clear Jn kn E))
       refine And.intro rfl (And.intro trivial ?_)
       unfold Txt.a4k
       cases hok:ok m sg with
       | true=>
         replace hok:=hjd hok
         go_wp2_with fail
         refine And.intro rfl (And.intro trivial (Txt.a1i ⟨⟨by kernel_rfl,by simp⟩,?_⟩))
         go_wp2_with fail
         go_roundg (ns.length - (k + 1))
         case measure=>omega
         case rel=>
          refine⟨k + 1,by omega,by omega,by go_num,hjd fun i hi=>?_,CC⟩
          by_cases hik:i=k
          ·rw [hik,hk1.out];exact hok.out
          ·exact ha.out i (by omega)
       | false=>
         replace hok:=hjd hok
         have e60:R=60:=by
          have h2:¬∀k,k < ns.length→ok (ns.getD k 0).toNat (gs.getD k [])=true:=fun h=>by
           have:=h k hlt
           rw [hk1.out,hok.out]at this
           cases this
          rw [←hRes.out];unfold a5f;rw [if_neg h12.out,if_neg (by rw [hord.out];simp),if_neg h2]
         go_wp2_with fail
         refine And.intro rfl (And.intro trivial (Txt.a1i ⟨⟨by kernel_rfl,by simp⟩,?_⟩))
         go_wp2_with fail
         go_ret
         exact⟨by rw [e60];rfl,CC.out.j,CC.out.k⟩
      ·obtain rfl:k=ns.length:=by omega
       have e0:R=0:=by rw [←hRes.out];unfold a5f;rw [if_neg h12.out,if_neg (by rw [hord.out];simp),if_pos ha.out]
       clear hf hk hlt
       go_wp2_with fail
       go_ret
       exact⟨by rw [e0];rfl,CC.out.j,CC.out.k⟩
  ·have b2:((gs.length:Int) !=(q:Int))=true:=by simpa using fun h=>h2 (by omega)
   replace h1:=hjd h1
   replace h2:=hjd h2
   refine Txt.a1n [4,12] (fun u=>Blk u g5 63 #[.slice BA body.length bc,.slice SA ns.length sc,.slice GA gs.length gc]) [[_,_,_,_,_,_,_,_],[_,_,_,_,_,_,_,_],[_,_]] (by kernel_rfl) (by kernel_rfl) rfl B5.out (Txt.a0g ?_)
   go_wp2_with (first
    | (go_at_call 21;(with_reducible refine(cq.out _ J1.out).mono ?_);rintro e v19 ⟨rfl,rfl⟩))
   refine And.intro rfl (And.intro B5.out ?_)
   unfold Txt.a4k
   go_wp2_with (first
    | (go_at_call 21;(with_reducible refine(cq.out _ J1.out).mono ?_);rintro e v27 ⟨rfl,rfl⟩))
   refine And.intro rfl (And.intro B5.out ?_)
   unfold Txt.a4k
   go_wp2_with fail
   refine And.intro rfl (And.intro B5.out (Txt.a1i ⟨⟨by kernel_rfl,?_⟩,?_⟩))
   ·intro j hj o ho hw
    have hj2:j=4∨j=12:=by simpa using hj
    rcases hj2 with rfl | rfl <;> cases ho
    ·exact⟨16,rfl,fun u hu=>a1s rfl (fun w=>by kernel_rfl) rfl (hu.cell 1)⟩
    ·exact⟨24,rfl,fun u hu=>a1s rfl (fun w=>by kernel_rfl) rfl (hu.cell 2)⟩
   go_wp2_with fail
   go_ret
   have e80:R=80:=by rw [←hRes.out];unfold a5f;rw [if_pos (.inr h2.out)]
   exact⟨by rw [e80];rfl,J1.out,K5.out.of0⟩
 ·have b1:((ns.length:Int) !=(q:Int))=true:=by simpa using fun h=>h1 (by omega)
  replace h1:=hjd h1
  refine Txt.a1n [4,12] (fun u=>Blk u g5 63 #[.slice BA body.length bc,.slice SA ns.length sc,.slice GA gs.length gc]) [[_,_,_,_,_,_,_,_],[_,_,_,_,_,_,_,_],[_,_]] (by kernel_rfl) (by kernel_rfl) rfl B5.out (Txt.a0g ?_)
  go_wp2_with (first
   | (go_at_call 21;(with_reducible refine(cq.out _ J1.out).mono ?_);rintro e v19 ⟨rfl,rfl⟩))
  refine And.intro rfl (And.intro B5.out ?_)
  unfold Txt.a4k
  go_wp2_with (first
   | (go_at_call 21;(with_reducible refine(cq.out _ J1.out).mono ?_);rintro e v27 ⟨rfl,rfl⟩))
  refine And.intro rfl (And.intro B5.out ?_)
  unfold Txt.a4k
  go_wp2_with fail
  refine And.intro rfl (And.intro B5.out (Txt.a1i ⟨⟨by kernel_rfl,?_⟩,?_⟩))
  ·intro j hj o ho hw
   have hj2:j=4∨j=12:=by simpa using hj
   rcases hj2 with rfl | rfl <;> cases ho
   ·exact⟨16,rfl,fun u hu=>a1s rfl (fun w=>by kernel_rfl) rfl (hu.cell 1)⟩
   ·exact absurd (hw:Region.wanted _ _=true) (by rw [show Region.wanted _ _=false from by kernel_rfl];simp)
  go_wp2_with fail
  go_ret
  have e80:R=80:=by rw [←hRes.out];unfold a5f;rw [if_pos (.inl h1.out)]
  exact⟨by rw [e80];rfl,J1.out,K5.out.of0⟩
end Go.Proofs.Ytdbngnlpafcogaa
namespace Go.Proofs.Ytdbngnlpafcogaa
open Go.RowKit Go.Mem Go.Txt
end Go.Proofs.Ytdbngnlpafcogaa
namespace Go.Proofs.Ytdbngnlpafcogaa
open Go.RowKit Go.Mem Go.Txt
end Go.Proofs.Ytdbngnlpafcogaa
namespace Go.Proofs.Ytdbngnlpafcogaa
open Go.RowKit Go.Mem Go.Txt
set_option maxHeartbeats 3200000 in
theorem key_in{w:World}{r b:Nat}{kv:Value}{keys:List (List UInt8)}{D:DU}(h:Rg w r kv keys b D)(i:Nat)(hi:i < keys.length) :
 Calls Try.prog 22 #[.pointer (some ⟨r,0,none⟩),.int .i64 (i:Int)] w fun e w'=>e= .returned (ab (keys.getD i []))∧Kept [] w w':=by
 obtain⟨kb,ko,kc,e0,_,_⟩:=h.rows.at_ (by omega)
 subst e0
 have H:=hjd h
 have h0:¬((i:Int) < 0):=by omega
 have h1:¬((keys.length:Int)≤(i:Int)):=by omega
 have hkl:=hjd (h.len (keys.getD i []) (by rw [getD_eq hi];exact List.getElem_mem _))
 obtain⟨pre,post,hpp,hpl⟩:=a6b hi h.len
 have hel:=hjd (fun u (hu:Rd u 32 (.slice (some ⟨kb,ko,none⟩) keys.length kc) keys.length (keys.flatMap bv))=>Rd.elem (i:=i) hu hpp hpl (by omega))
 generalize hky:keys.getD i []=key at *
 clear h hpp hpl hky
 go_enter Try.func22,Try.ntmps22
 go_wp2_with (first
  | ((with_reducible refine a0e 4 ?_);(refine a0h (o:=⟨some 4,_,_,_,_,_⟩) rfl rfl a7p ?_);intro g4 w4 m4
     have B4:=hjd m4.blk
     have KK:=hjd m4.kept
     have L4:=hjd m4.le
     replace H:=hjd (H.out.kept m4.kept)
     have q0:w4.cell? ⟨r,0,none⟩=some (.slice (some ⟨kb,ko,none⟩) keys.length kc):=by rw [H.out.blk.cell];rfl
     clear m4)
  | (go_at_call 19;(with_reducible refine(a5l H.out).mono ?_);rintro e v ⟨rfl,rfl⟩)
  | ((with_reducible refine a0e 19 ?_);refine a3x (o:=⟨some 19,_,_,_,_,_⟩) a7r rfl (.tmp 17) (.tmp 18) rfl rfl rfl hi ?_)
  | ((with_reducible refine a0e 20 ?_);refine a0z (o:=⟨some 20,_,_,_,_,_⟩) (cs:=bv key) a2k.row rfl (.tmp 19) rfl rfl (hel.out _ H.out.rows) (by simpa using hkl.out) ?_)
  | ((refine a0c (cs:=(bv key).toArray) (o:=⟨none,Op.store 26 (.tmp 4) (.tmp 20),_,_,_,_⟩) a2k.row rfl (.tmp 4) (.tmp 20) rfl rfl rfl B4.out (by rfl) (by simpa using hkl.out) (a2v _) ?_);intro wz bz kz))
 exact a1k a2k.row rfl rfl bz (by simpa using hkl.out) rfl ⟨rfl,KK.out.a0r kz L4.out⟩
theorem c6u(w:World):Calls Try.prog 19 #[.pointer none] w fun e w'=>e= .returned (.int .i64 0)∧w'=w:=by
 go_enter Try.func19,Try.ntmps19
 go_wp2_with fail
 go_ret
 exact⟨rfl,rfl⟩
theorem c9e(w:World):Calls Try.prog 21 #[.pointer none] w fun e w'=>e= .returned (.int .i64 0)∧w'=w:=by
 go_enter Try.func21,Try.ntmps21
 go_wp2_with (go_at_call 19;(with_reducible refine(c6u _).mono ?_);rintro e v ⟨rfl,rfl⟩)
 go_ret
 exact⟨rfl,rfl⟩
end Go.Proofs.Ytdbngnlpafcogaa
namespace Go.Proofs.Ytdbngnlpafcogaa
open Go.RowKit Go.Mem Go.Txt
set_option maxHeartbeats 3200000 in
theorem d0t(i:Int)(tv mv:Value)(SG:List UInt8)(w:World):Calls Try.prog 15 #[.pointer none,.int .i64 i,tv,mv,ab SG] w fun e w'=>e= .returned (.bool false)∧Kept [] w w':=by
 by_cases h:i < 0
 ·go_enter Try.func15,Try.ntmps15
  go_wp2_with (first
   | ((with_reducible refine a0e 9 ?_);(refine a0p (o:=⟨some 9,_,_,_,_,_⟩) (v:=ab SG) rfl (.tmp 4) rfl rfl ?_);intro g9 w9 m9;have KK:=hjd m9.kept;clear m9))
  go_ret
  exact⟨rfl,KK.out⟩
 ·have h2:0≤i:=by omega
  go_enter Try.func15,Try.ntmps15
  go_wp2_with (first
   | ((with_reducible refine a0e 9 ?_);(refine a0p (o:=⟨some 9,_,_,_,_,_⟩) (v:=ab SG) rfl (.tmp 4) rfl rfl ?_);intro g9 w9 m9;have KK:=hjd m9.kept;clear m9)
   | (go_at_call 19;(with_reducible refine(c6u _).mono ?_);rintro e v ⟨rfl,rfl⟩))
  go_ret
  exact⟨rfl,KK.out⟩
set_option maxHeartbeats 3200000 in
theorem d8t{w:World}{r b:Nat}{kv:Value}{keys:List (List UInt8)}{D:DU}(h:Rg w r kv keys b D)(i:Int)(hi:i < 0∨(keys.length:Int)≤i)(tv mv:Value)(SG:List UInt8):Calls Try.prog 15 #[.pointer (some ⟨r,0,none⟩),.int .i64 i,tv,mv,ab SG] w fun e w'=>e= .returned (.bool false)∧Kept [] w w':=by
 have H:=hjd h
 clear h
 by_cases h:i < 0
 ·go_enter Try.func15,Try.ntmps15
  go_wp2_with (first
   | ((with_reducible refine a0e 9 ?_);(refine a0p (o:=⟨some 9,_,_,_,_,_⟩) (v:=ab SG) rfl (.tmp 4) rfl rfl ?_);intro g9 w9 m9;have KK:=hjd m9.kept;clear m9))
  go_ret
  exact⟨rfl,KK.out⟩
 ·have h2:(keys.length:Int)≤i:=by omega
  clear hi
  go_enter Try.func15,Try.ntmps15
  go_wp2_with (first
   | ((with_reducible refine a0e 9 ?_);(refine a0p (o:=⟨some 9,_,_,_,_,_⟩) (v:=ab SG) rfl (.tmp 4) rfl rfl ?_);intro g9 w9 m9;have KK:=hjd m9.kept;replace H:=hjd (H.out.kept m9.kept);clear m9)
   | (go_at_call 19;(with_reducible refine(a5l H.out).mono ?_);rintro e v ⟨rfl,rfl⟩))
  go_ret
  exact⟨rfl,KK.out⟩
noncomputable def okR (keys:List (List UInt8)) (tag:UInt8) (body:List UInt8) (i:Nat) (sig:List UInt8):Bool:=decide (i < keys.length) && okV (keys.getD i []) sig (a4w tag body)
def RgJ(r b:Nat)(kv:Value)(keys:List (List UInt8))(u:World):Prop:=∃D,Rg u r kv keys b D
theorem Rg.blt{w:World}{r b:Nat}{kv:Value}{keys:List (List UInt8)}{D:DU}(h:Rg w r kv keys b D):b < w.heap.size:=by
 obtain⟨n,hn⟩:=h.map
 exact hn.lt
theorem RgJ.far{w u u':World}{r b:Nat}{kv:Value}{keys:List (List UInt8)}{X:List Nat}(h0:RgJ r b kv keys w)(hX:∀k∈X,w.heap.size≤k)(h:RgJ r b kv keys u)(hk:Kept X u u'):RgJ r b kv keys u':=by
 obtain⟨D0,h0⟩:=h0
 obtain⟨D,h⟩:=h
 refine⟨D,h.blk.kept hk (fun hm=>by have:=hX _ hm;have:=h0.blk.lt;omega),h.rows.kept hk (Rd.old h0.rows (by omega) hX),h.len,h.few,?_,h.seen,h.isMap⟩
 obtain⟨n,hn⟩:=h.map
 exact⟨n,hn.kept hk (fun hm=>by have:=hX _ hm;have:=h0.blt;omega)⟩
theorem RgJ.rd{u u':World}{r b s n:Nat}{kv v:Value}{keys:List (List UInt8)}{xs:List Value}(hs:0 < s)(h:RgJ r b kv keys u)(hk:Kept [b] u u')(hr:Rd u s v n xs):Rd u' s v n xs:=by
 obtain⟨D,h⟩:=h
 obtain⟨m,hm⟩:=h.map
 refine hr.kept hk fun hn k hk2 hm2=>?_
 refine Rd.c7u hr hm ?_ hn k hk2 (List.mem_singleton.1 hm2)
 rw [hr.len]
 exact Nat.mul_pos hn hs
theorem openR{u:World}{r b:Nat}{kv:Value}{keys:List (List UInt8)}(tag:UInt8)(body:List UInt8)(hbl:body.length≤140737488351900)(i:Nat)(sig:List UInt8)(hs:sig.length=64)(v:Value)(hv:a2b body v u)(h:RgJ r b kv keys u) :
 Calls Try.prog 15 #[.pointer (some ⟨r,0,none⟩),.int .i64 (i:Int),.int .u8 (tag.toNat:Int),v,ab sig] u fun e w'=>e= .returned (.bool (okR keys tag body i sig))∧RgJ r b kv keys w'∧Kept [b] u w':=by
 obtain⟨D,h⟩:=h
 by_cases hi:i < keys.length
 ·refine(d7d tag body h hi hs v hv hbl).mono ?_
  rintro e w' ⟨rfl,D',h',k⟩
  exact⟨by unfold okR;rw [decide_eq_true hi];rfl,⟨D',h'⟩,k⟩
 ·refine(d8t h i (.inr (by omega)) _ v sig).mono ?_
  rintro e w' ⟨rfl,k⟩
  exact⟨by unfold okR;rw [decide_eq_false hi];rfl,⟨D,h.kept k⟩,Kept.of0 k⟩
def b9y(n:Nat):Nat:=2 * (n / 3) + 1
theorem quoR{u:World}{r b:Nat}{kv:Value}{keys:List (List UInt8)}(h:RgJ r b kv keys u):Calls Try.prog 21 #[.pointer (some ⟨r,0,none⟩)] u fun e w'=>e= .returned (.int .i64 (b9y keys.length:Int))∧w'=u:=by
 obtain⟨D,h⟩:=h
 refine(c8y h).mono ?_
 rintro e w' ⟨rfl,rfl⟩
 exact⟨by unfold b9y;first | rfl | (congr 2;omega),rfl⟩
theorem sizeR{u:World}{r b:Nat}{kv:Value}{keys:List (List UInt8)}(h:RgJ r b kv keys u):Calls Try.prog 19 #[.pointer (some ⟨r,0,none⟩)] u fun e w'=>e= .returned (.int .i64 (keys.length:Int))∧w'=u:=by
 obtain⟨D,h⟩:=h
 exact a5l h
theorem a9o{w:World}{r b:Nat}{kv:Value}{keys:List (List UInt8)}(h:RgJ r b kv keys w)(tag:UInt8){ns:List Int}{gs:List (List UInt8)}{body:List UInt8}(bw sv gv:Value)(hb:a2b body bw w)(hbl:body.length≤140737488351900)(hs:Rd w 1 sv ns.length (iv ns))(hg:Rd w 64 gv gs.length (gs.flatMap bv))(hgl:∀g∈gs,g.length=64)(hlen:ns.length≤140737488351900)(hlen2:gs.length≤140737488351900) :
 Calls Try.prog 34 #[.pointer (some ⟨r,0,none⟩),.int .u8 (tag.toNat:Int),e1x bw sv gv] w fun e w'=>e= .returned (.int .i64 (a5f (b9y keys.length) keys.length (okR keys tag body) ns gs))∧RgJ r b kv keys w'∧Kept [b] w w':=by
 obtain⟨D,h0⟩:=id h
 exact c8i bw sv gv w hb hs hg hgl h0.few h hlen hlen2 (by unfold b9y;have:=h0.few;omega) (by simpa using h0.blt) (fun u u' X hX hj hk=>RgJ.far h hX hj hk) (fun u u' s v n xs hs hj hk hr=>RgJ.rd hs hj hk hr)
  (fun i sig u v _ hs hv hj=>openR tag body hbl i sig hs v hv hj) (fun u hj=>quoR hj) (fun u hj=>sizeR hj)
noncomputable def a5u (keys:List (List UInt8)) (tag:UInt8) (body:List UInt8) (sh:List Shr):Nat→Option Nat:=a2f (okR keys tag body) sh sh.length
theorem d3m{sh:List Shr}{body:List UInt8}(tag:UInt8)(bw:Value){SA:Option Addr}{sc:Nat}(w:World)
 (hb:a2b body bw w) (hbl:body.length≤140737488351900) (hs:Rd w 65 (.slice SA sh.length sc) sh.length (sh.flatMap shC)) (hsl:∀p∈sh,p.2.length=64) (hm:sh.length≤1000) :
 Calls Try.prog 32 #[.pointer none,.int .u8 (tag.toNat:Int),bw,.slice SA sh.length sc] w fun e w'=>Kept [] w w'∧e= .returned (.tuple #[.agg #[.slice none 0 0,.slice none 0 0,.slice none 0 0],.int .i64 80]):=by
 obtain⟨gs,os,hA⟩:∃gs os,0 < sh.length→SA=some ⟨gs,os,none⟩:=by
  by_cases h:0 < sh.length
  ·obtain⟨gs,os,c,e,_⟩:=hs.at_ h
   cases e
   exact⟨gs,os,fun _=>rfl⟩
  ·exact⟨0,0,fun h2=>absurd h2 h⟩
 refine(b6y (S:=[]) (J:=fun _=>True) (q:=0) (tag:=tag) (ok:=fun _ _=>false) (rp:=none) bw w hb hbl hs hA hsl hm trivial (by simp) (fun _ _ _ _ _ _=>trivial) (fun u u' s v n xs _ _ hk hr=>hr.a0o hk)
  (fun i sig u v _ _ _ _=>(d0t i _ v sig u).mono (by rintro e w' ⟨rfl,k⟩;exact⟨rfl,trivial,k⟩)) (fun u _=>(c9e u).mono (by rintro e w' ⟨rfl,rfl⟩;exact⟨rfl,rfl⟩))).mono ?_
 rintro e w' ⟨_,k,⟨_,rfl⟩ | ⟨h,_⟩⟩
 ·exact⟨k,rfl⟩
 ·exact absurd rfl h
theorem b9s{w:World}{r b:Nat}{kv:Value}{keys:List (List UInt8)}(h:RgJ r b kv keys w)(tag:UInt8){sh:List Shr}{body:List UInt8}(bw:Value){SA:Option Addr}{sc:Nat}
 (hb:a2b body bw w) (hbl:body.length≤140737488351900) (hs:Rd w 65 (.slice SA sh.length sc) sh.length (sh.flatMap shC)) (hsl:∀p∈sh,p.2.length=64) (hm:sh.length≤1000) :
 Calls Try.prog 32 #[.pointer (some ⟨r,0,none⟩),.int .u8 (tag.toNat:Int),bw,.slice SA sh.length sc] w fun e w'=>RgJ r b kv keys w'∧Kept [b] w w'∧
  ((c0e (a5u keys tag body sh) < b9y keys.length∧e= .returned (.tuple #[.agg #[.slice none 0 0,.slice none 0 0,.slice none 0 0],.int .i64 80]))∨
   (b9y keys.length≤c0e (a5u keys tag body sh)∧∃b2 s2 g2,e= .returned (.tuple #[.agg #[b2,s2,g2],.int .i64 0])∧a2b body b2 w'∧
     Rd w' 1 s2 (a2q (a5u keys tag body sh) (b9y keys.length) 7).length (iv ((a2q (a5u keys tag body sh) (b9y keys.length) 7).map fun(k:Nat)=>(k:Int)))∧Rd w' 64 g2 (a2q (a5u keys tag body sh) (b9y keys.length) 7).length ((a2q (a5u keys tag body sh) (b9y keys.length) 7).flatMap fun k=>bv (a8l sh (a5u keys tag body sh) k)))):=by
 obtain⟨gs,os,hA⟩:∃gs os,0 < sh.length→SA=some ⟨gs,os,none⟩:=by
  by_cases h:0 < sh.length
  ·obtain⟨gs,os,c,e,_⟩:=hs.at_ h
   cases e
   exact⟨gs,os,fun _=>rfl⟩
  ·exact⟨0,0,fun h2=>absurd h2 h⟩
 obtain⟨D,h0⟩:=id h
 refine(b6y (S:=[b]) (J:=RgJ r b kv keys) (q:=b9y keys.length) (tag:=tag) (ok:=okR keys tag body) (rp:=some ⟨r,0,none⟩) bw w hb hbl hs hA hsl hm h (by simpa using h0.blt) (fun u u' X hX hj hk=>RgJ.far h hX hj hk) (fun u u' s v n xs hs hj hk hr=>RgJ.rd hs hj hk hr)
  (fun i sig u v _ hs hv hj=>openR tag body hbl i sig hs v hv hj) (fun u hj=>quoR hj)).mono ?_
 rintro e w' ⟨hj,k,⟨hc,rfl⟩ | ⟨_,hc,hr⟩⟩
 ·exact⟨hj,k,.inl ⟨hc.resolve_left (by simp),rfl⟩⟩
 ·exact⟨hj,k,.inr ⟨hc,hr⟩⟩
end Go.Proofs.Ytdbngnlpafcogaa
namespace Go.Proofs.Ytdbngnlpafcogaa
open Go.RowKit Go.Mem Go.Txt
theorem b0w(ok:Nat→List UInt8→Bool)(sh:List Shr):∀j,j≤sh.length→∀k i,a2f ok sh j k=some i→k < 7∧i < j∧ok k (sh.getD i (0,[])).2=true∧(sh.getD i (0,[])).1=(k:Int)
 | 0,_,k,i,h=>by cases h
 | j + 1,hj,k,i,h=>by
   have ih:=b0w ok sh j (by omega) k i
   have e:a2f ok sh (j + 1)=b1u ok (a2f ok sh j) j (sh.getD j (0,[])):=rfl
   rw [e]at h
   unfold b1u at h
   split at h
   ·rename_i hc
    dsimp only at h
    split at h
    ·rename_i hk
     cases h
     refine⟨by omega,by omega,by rw [hk];exact hc.2.2.2,by omega⟩
    ·have:=ih h
     exact⟨this.1,by omega,this.2.2⟩
   ·have:=ih h
    exact⟨this.1,by omega,this.2.2⟩
theorem d0o(B:Nat→Option Nat)(q:Nat):∀j,(a2q B q j).Pairwise (· < ·)∧∀k∈a2q B q j,k < j∧(B k).isSome=true
 | 0=>⟨List.Pairwise.nil,fun k h=>by cases h⟩
 | j + 1=>by
   obtain⟨h1,h2⟩:=d0o B q j
   unfold a2q
   split
   ·rename_i hc
    refine⟨List.pairwise_append.2 ⟨h1,List.pairwise_singleton _ _,fun a ha b hb=>?_⟩,fun k hk=>?_⟩
    ·rw [List.mem_singleton.1 hb]
     exact(h2 a ha).1
    ·rcases List.mem_append.1 hk with hk | hk
     ·exact⟨by have:=(h2 k hk).1;omega,(h2 k hk).2⟩
     ·rw [List.mem_singleton.1 hk]
      exact⟨by omega,hc.1⟩
   ·exact⟨h1,fun k hk=>⟨by have:=(h2 k hk).1;omega,(h2 k hk).2⟩⟩
theorem c6a(B:Nat→Option Nat)(q:Nat):∀j,(a2q B q j).length=min q ((List.range j).filter fun k=>(B k).isSome).length
 | 0=>by simp [a2q]
 | j + 1=>by
   have ih:=c6a B q j
   rw [List.range_succ,List.filter_append,List.length_append,filter_one]
   unfold a2q
   by_cases hs:(B j).isSome=true
   ·rw [if_pos hs]
    by_cases hq:(a2q B q j).length < q
    ·rw [if_pos ⟨hs,hq⟩,List.length_append,List.length_singleton]
     omega
    ·rw [if_neg (fun h=>hq h.2)]
     omega
   ·rw [if_neg hs,if_neg (fun h=>hs h.1)]
    omega
theorem c1b{B:Nat→Option Nat}{q:Nat}(h:q≤c0e B):(a2q B q 7).length=q:=by
 rw [c6a]
 unfold c0e at h
 omega
theorem b7l(n:Nat):∀(l:List Nat) (last:Int),l.Pairwise (· < ·)→(∀k∈l,last < (k:Int)∧k < n)→c2f n last (l.map fun(k:Nat)=>(k:Int))=true
 | [],_,_,_=>rfl
 | x :: l,last,hp,ha=>by
   rw [List.pairwise_cons]at hp
   have hx:=ha x (by simp)
   simp only [List.map_cons,c2f,Bool.and_eq_true,decide_eq_true_eq]
   refine⟨⟨hx.1,by omega⟩,b7l n l x hp.2 fun k hk=>⟨by have:=hp.1 k hk;omega,(ha k (by simp [hk])).2⟩⟩
theorem c9l{q n:Nat}{ok:Nat→List UInt8→Bool}{sh:List Shr}(hn:∀k s,ok k s=true→k < n)(hq:q≤c0e (a2f ok sh sh.length)) :
 a5f q n ok ((a2q (a2f ok sh sh.length) q 7).map fun(k:Nat)=>(k:Int)) ((a2q (a2f ok sh sh.length) q 7).map fun k=>a8l sh (a2f ok sh sh.length) k)=0:=by
 have hl:=c1b hq
 obtain⟨hp,hm⟩:=d0o (a2f ok sh sh.length) q 7
 have hok:∀k∈a2q (a2f ok sh sh.length) q 7,ok k (a8l sh (a2f ok sh sh.length) k)=true:=by
  intro k hk
  obtain⟨i,hi⟩:=Option.isSome_iff_exists.1 (hm k hk).2
  have:=b0w ok sh sh.length (Nat.le_refl _) k i hi
  unfold a8l
  rw [hi]
  exact this.2.2.1
 generalize a2q (a2f ok sh sh.length) q 7=L at *
 unfold a5f
 rw [if_neg (by simp [hl]),if_neg,if_pos]
 ·intro k hk
  have hkL:k < L.length:=by simpa using hk
  have:=hok L[k] (List.getElem_mem _)
  simpa [List.getD_eq_getElem?_getD,List.getElem?_eq_getElem hkL]using this
 ·rw [b7l n L (-1) hp fun k hk=>⟨by omega,hn _ _ (hok k hk)⟩]
  simp
theorem d2z{keys:List (List UInt8)}{tag:UInt8}{body:List UInt8}{k:Nat}{s:List UInt8}(h:okR keys tag body k s=true):k < keys.length:=by
 unfold okR at h
 simp only [Bool.and_eq_true,decide_eq_true_eq]at h
 exact h.1
end Go.Proofs.Ytdbngnlpafcogaa
namespace Go.Proofs.Ytdbngnlpafcogaa
open Go.RowKit Go.Mem Go.Txt
theorem c0g(ok:Nat→List UInt8→Bool)(sh t:List Shr):∀j,j≤sh.length→a2f ok (sh ++ t) j=a2f ok sh j
 | 0,_=>rfl
 | j + 1,hj=>by
   have e1:a2f ok (sh ++ t) (j + 1)=b1u ok (a2f ok (sh ++ t) j) j ((sh ++ t).getD j (0,[])):=rfl
   have e2:a2f ok sh (j + 1)=b1u ok (a2f ok sh j) j (sh.getD j (0,[])):=rfl
   have e3:(sh ++ t).getD j (0,[])=sh.getD j (0,[]):=by
    rw [List.getD_eq_getElem?_getD,List.getD_eq_getElem?_getD,List.getElem?_append_left (by omega)]
   rw [e1,e2,c0g ok sh t j (by omega),e3]
theorem b9n(ok:Nat→List UInt8→Bool)(sh:List Shr)(p:Shr):a2f ok (sh ++ [p]) (sh ++ [p]).length=b1u ok (a2f ok sh sh.length) sh.length p:=by
 rw [List.length_append,List.length_singleton]
 have e1:a2f ok (sh ++ [p]) (sh.length + 1)=b1u ok (a2f ok (sh ++ [p]) sh.length) sh.length ((sh ++ [p]).getD sh.length (0,[])):=rfl
 rw [e1,c0g ok sh [p] sh.length (Nat.le_refl _)]
 congr 1
 simp [List.getD_eq_getElem?_getD]
theorem d8o{sh t:List Shr}{B:Nat→Option Nat}{k i:Nat}(h:B k=some i)(hi:i < sh.length):a8l (sh ++ t) B k=a8l sh B k:=by
 unfold a8l
 rw [h]
 show((sh ++ t).getD i (0,[])).2=(sh.getD i (0,[])).2
 rw [List.getD_eq_getElem?_getD,List.getD_eq_getElem?_getD,List.getElem?_append_left hi]
end Go.Proofs.Ytdbngnlpafcogaa
namespace Go.Proofs.Ytdbngnlpafcogaa
open Go.RowKit Go.Mem Go.Txt
structure MkS (ok:Nat→List UInt8→Bool) (sh:List Shr) (R:Nat→Bool) (G:Nat→List UInt8) (C:Nat):Prop where
 r:∀k,R k=(a2f ok sh sh.length k).isSome
 g:∀k,R k=true→G k=a8l sh (a2f ok sh sh.length) k
 gl:∀k,(G k).length=64
 sl:∀p∈sh,p.2.length=64
 c:C=c0e (a2f ok sh sh.length)
theorem MkS.start(ok:Nat→List UInt8→Bool):MkS ok [] (fun _=>false) (fun _=>a0q 64) 0:=
 ⟨fun _=>rfl,fun _ h=>by(cases h),fun _=>by simp [a0q],fun p h=>by(cases h),by unfold c0e;rw [List.filter_eq_nil_iff.2 (fun k _=>by simp [a2f])];rfl⟩
section
variable {ok:Nat→List UInt8→Bool} {sh:List Shr} {R:Nat→Bool} {G:Nat→List UInt8} {C:Nat}
theorem MkS.le(h:MkS ok sh R G C):C≤7:=by rw [h.c];exact d2d _
theorem MkS.take(h:MkS ok sh R G C){m:Nat}{sg:List UInt8}(hm:m < 7)(hR:R m=false)(hok:ok m sg=true)(hs:sg.length=64):MkS ok (sh ++ [((m:Int),sg)]) (fun k=>if k=m then true else R k) (fun k=>if k=m then sg else G k) (C + 1):=by
 have hn:a2f ok sh sh.length m=none:=by
  have:=h.r m
  rw [hR]at this
  cases hq:a2f ok sh sh.length m with
  | none=>rfl
  | some z=>rw [hq]at this;cases this
 have e:a2f ok (sh ++ [((m:Int),sg)]) (sh ++ [((m:Int),sg)]).length=fun k=>if k=m then some sh.length else a2f ok sh sh.length k:=by
  rw [b9n]
  unfold b1u
  rw [if_pos ⟨by simp,by simp;omega,by simpa using hn,by simpa using hok⟩]
  simp
 refine⟨fun k=>?_,fun k hk=>?_,fun k=>?_,fun p hp=>?_,?_⟩
 ·rw [e]
  show(if k=m then true else R k)=(if k=m then some sh.length else a2f ok sh sh.length k).isSome
  by_cases hkm:k=m
  ·rw [if_pos hkm,if_pos hkm];rfl
  ·rw [if_neg hkm,if_neg hkm];exact h.r k
 ·rw [e]
  have hk2:(if k=m then true else R k)=true:=hk
  show(if k=m then sg else G k)=((sh ++ [((m:Int),sg)]).getD ((if k=m then some sh.length else a2f ok sh sh.length k).getD 0) (0,[])).2
  by_cases hkm:k=m
  ·rw [if_pos hkm,if_pos hkm]
   simp [List.getD_eq_getElem?_getD]
  ·rw [if_neg hkm]at hk2
   rw [if_neg hkm,if_neg hkm,h.g k hk2]
   have h1:=h.r k
   rw [hk2]at h1
   obtain⟨i,hi⟩:=Option.isSome_iff_exists.1 h1.symm
   have h2:=(b0w ok sh sh.length (Nat.le_refl _) k i hi).2.1
   unfold a8l
   rw [hi]
   simp [List.getD_eq_getElem?_getD,List.getElem?_append_left h2]
 ·show(if k=m then sg else G k).length=64
  by_cases hkm:k=m
  ·rw [if_pos hkm];exact hs
  ·rw [if_neg hkm];exact h.gl k
 ·rcases List.mem_append.1 hp with hp | hp
  ·exact h.sl p hp
  ·rw [List.mem_singleton.1 hp];exact hs
 ·rw [e,d5c hm hn,h.c]
theorem MkS.leave(h:MkS ok sh R G C){p:Shr}(hs:p.2.length=64)(hno:¬(0≤p.1∧p.1 < 7∧R p.1.toNat=false∧ok p.1.toNat p.2=true)):MkS ok (sh ++ [p]) R G C:=by
 have e:a2f ok (sh ++ [p]) (sh ++ [p]).length=a2f ok sh sh.length:=by
  rw [b9n]
  unfold b1u
  rw [if_neg]
  rintro⟨h1,h2,h3,h4⟩
  refine hno ⟨h1,h2,?_,h4⟩
  rw [h.r,h3]
  rfl
 refine⟨fun k=>by rw [e];exact h.r k,fun k hk=>?_,h.gl,fun q hq=>?_,by rw [e];exact h.c⟩
 ·rw [e,h.g k hk]
  have h1:=h.r k
  rw [hk]at h1
  obtain⟨i,hi⟩:=Option.isSome_iff_exists.1 h1.symm
  exact(d8o hi (b0w ok sh sh.length (Nat.le_refl _) k i hi).2.1).symm
 ·rcases List.mem_append.1 hq with hq | hq
  ·exact h.sl q hq
  ·rw [List.mem_singleton.1 hq];exact hs
def a8k(R:Nat→Bool)(q:Nat):Nat→List Nat
 | 0=>[]
 | j + 1=>if R j=true∧(a8k R q j).length < q then a8k R q j ++ [j]else a8k R q j
theorem c6f(R:Nat→Bool)(q:Nat):∀j,(a8k R q j).length≤j
 | 0=>Nat.le_refl _
 | j + 1=>by
   have:=c6f R q j
   unfold a8k
   split
   ·rw [List.length_append,List.length_singleton];omega
   ·omega
theorem c4b(R:Nat→Bool)(q:Nat):∀j,∀m∈a8k R q j,m < j∧R m=true
 | 0,m,h=>by cases h
 | j + 1,m,h=>by
   unfold a8k at h
   split at h
   ·rename_i hc
    rcases List.mem_append.1 h with h | h
    ·have:=c4b R q j m h
     exact⟨by omega,this.2⟩
    ·rw [List.mem_singleton.1 h]
     exact⟨by omega,hc.1⟩
   ·have:=c4b R q j m h
    exact⟨by omega,this.2⟩
theorem MkS.want(h:MkS ok sh R G C)(q:Nat):∀j,a8k R q j=a2q (a2f ok sh sh.length) q j
 | 0=>rfl
 | j + 1=>by
   have ih:=h.want q j
   unfold a8k a2q
   rw [ih,h.r j]
theorem MkS.want7(h:MkS ok sh R G C){n:Nat}(hn:n≤7)(hok:∀k s,ok k s=true→k < n)(q:Nat):a8k R q n=a2q (a2f ok sh sh.length) q 7:=by
 rw [h.want q n]
 have:∀d,n + d≤7→a2q (a2f ok sh sh.length) q n=a2q (a2f ok sh sh.length) q (n + d):=by
  intro d
  induction d with
  | zero=>intro _;rfl
  | succ d ih=>
    intro hd
    rw [ih (by omega),show n + (d + 1)=n + d + 1 from by omega]
    conv=>rhs;unfold a2q
    rw [if_neg]
    rintro⟨h1,_⟩
    obtain⟨i,hi⟩:=Option.isSome_iff_exists.1 h1
    have:=b0w ok sh sh.length (Nat.le_refl _) _ i hi
    have:=hok _ _ this.2.2.1
    omega
 have h2:=this (7 - n) (by omega)
 rwa [show n + (7 - n)=7 from by omega]at h2
end
end Go.Proofs.Ytdbngnlpafcogaa
namespace Go.Proofs.Ytdbngnlpafcogaa
open Go.RowKit Go.Mem Go.Txt
theorem c1q{sg:List UInt8}(h:sg.length=64):Try.prog.built 60 [(1,ab sg)]=some (shC (0,sg)).toArray:=by
 rw [as_map h]
 kernel_rfl
theorem a0s{n:Int}{sg:List UInt8}(h:sg.length=64):(shC (n,sg)).length=65:=by simp [shC,h]
theorem lit97(u:World)(fr:Nat × Nat):a2b [97] (.slice (some ⟨u.heap.size,0,none⟩) 1 1) (u.alloc (.cells #[.int .u8 97] 5 fr)):=lit_b rfl rfl
theorem lit97b(u:World)(o:Obj)(fr:Nat × Nat):a2b [97] (.slice (some ⟨u.heap.size + 1,0,none⟩) 1 1) ((u.alloc o).alloc (.cells #[.int .u8 97] 5 fr)):=lit_b (by simp) rfl
set_option maxHeartbeats 3200000 in
theorem c1s{sd SG:List UInt8}{keys:List (List UInt8)}(hsd:sd.length=32)(hSG:SG.length=64)
 (c0:∀u,Calls Try.prog 31 #[.int .i64 0] u fun e w'=>∃r b kv sv,e= .returned (.tuple #[.pointer (some ⟨r,0,none⟩),sv])∧RgJ r b kv keys w'∧Rd w' 32 sv 1 (bv sd)∧Kept [] u w'∧u.heap.size≤b)
 (cs:∀u v,a2b [97] v u→Calls Try.prog 17 #[ab sd,.int .u8 5,v] u fun e w'=>e= .returned (ab SG)∧Kept [] u w')
 (cm:∀r b kv u bw A c,RgJ r b kv keys u→a2b [97] bw u→Rd u 65 (.slice A 1 c) 1 (shC (0,SG))→Calls Try.prog 32 #[.pointer (some ⟨r,0,none⟩),.int .u8 5,bw,.slice A 1 c] u fun e w'=>∃b2 s2 g2,e= .returned (.tuple #[.agg #[b2,s2,g2],.int .i64 0])∧RgJ r b kv keys w'∧Kept [b] u w'∧a2b [97] b2 w'∧Rd w' 1 s2 1 [.int .i64 0]∧Rd w' 64 g2 1 (bv SG))
 (c5:∀r b kv u bw sv gv,RgJ r b kv keys u→a2b [97] bw u→Rd u 1 sv 1 [.int .i64 0]→Rd u 64 gv 1 (bv SG)→Calls Try.prog 34 #[.pointer (some ⟨r,0,none⟩),.int .u8 5,.agg #[bw,sv,gv]] u fun e w'=>e= .returned (.int .i64 0)∧RgJ r b kv keys w'∧Kept [b] u w')
 (c4:∀r b kv u bw sv gv,RgJ r b kv keys u→a2b [97] bw u→Rd u 1 sv 1 [.int .i64 0]→Rd u 64 gv 1 (bv SG)→Calls Try.prog 34 #[.pointer (some ⟨r,0,none⟩),.int .u8 4,.agg #[bw,sv,gv]] u fun e w'=>e= .returned (.int .i64 60)∧RgJ r b kv keys w'∧Kept [b] u w')
 (cz:∀r b kv u,RgJ r b kv keys u→Calls Try.prog 34 #[.pointer (some ⟨r,0,none⟩),.int .u8 5,.agg #[.slice none 0 0,.slice none 0 0,.slice none 0 0]] u fun e w'=>e= .returned (.int .i64 80)∧RgJ r b kv keys w'∧Kept [b] u w') (w:World) :
 Calls Try.prog 30 #[] w fun e w'=>e= .returned (.bool true)∧Kept [] w w':=by
 have sb:=hjd (c1q hSG)
 replace hsd:=hjd hsd
 replace hSG:=hjd hSG
 replace c0:=hjd c0
 replace cs:=hjd cs
 replace cm:=hjd cm
 replace c5:=hjd c5
 replace c4:=hjd c4
 replace cz:=hjd cz
 go_enter Try.func30,Try.ntmps30
 go_wp2_with (first
  | (go_at_call 31;(with_reducible refine(c0.out _).mono ?_);rintro e u6 ⟨r,b,kv,sv,rfl,J,S,K,L⟩
     replace J:=hjd J
     replace K:=hjd K
     have hB:∀k∈[b],w.heap.size≤k:=by simpa using L
     replace hB:=hjd hB
     obtain⟨sb0,so,sc,rfl,e2,e3⟩:=S.at_ (by decide)
     clear e2 e3 L
     replace S:=hjd S)
  | ((with_reducible refine a0e 14 ?_);refine a3x (i:=0) (n:=1) (o:=⟨some 14,_,_,_,_,_⟩) a7r rfl (.tmp 13) (.const (.int .i64 0)) rfl rfl rfl (by decide) ?_)
  | ((with_reducible refine a0e 15 ?_);refine a0z (o:=⟨some 15,_,_,_,_,_⟩) (cs:=bv sd) a2k.row rfl (.tmp 14) rfl rfl (Rd.elem (i:=0) (n:=1) (pre:=[]) (post:=[]) (S.out.a0o ((Kept.refl [] _).alloc _)) (by simp) (by simp) (by decide)) (by simpa using hsd.out) ?_)
  | (go_at_call 17;(with_reducible refine(cs.out _ _ (lit97b u6 _ _)).mono ?_);rintro e u18 ⟨rfl,kk⟩
     have k0:=(((Kept.refl [] u6).alloc _).alloc _).a0f kk
     have R11:=hjd (a2b.a0o (a2b.a0o (lit97 u6 _) ((Kept.refl [] _).alloc _)) kk)
     replace K:=hjd (K.out.a0f k0)
     replace J:=hjd (RgJ.far J.out (by simp) J.out k0)
     clear kk k0 S)
  | ((with_reducible refine a0e 19 ?_);refine a3t (v:=ab SG) (cs:=(shC (0,SG)).toArray) rfl 1 (.tmp 18) rfl rfl sb.out ?_)
  | ((with_reducible refine a0e 20 ?_);(refine a1f (o:=⟨some 20,_,_,_,_,_⟩) (v0:=.agg (shC (0,SG)).toArray) (cells:=(shC (0,SG)).toArray) rfl a2c rfl rfl (by decide) rfl (by rw [List.size_toArray];exact a0s hSG.out) ?_);intro g20 w20 m20
     have R20:=hjd (a6a m20.blk (a0s hSG.out))
     replace K:=hjd (K.out.a0f m20.kept)
     replace J:=hjd (RgJ.far J.out (by simp) J.out m20.kept)
     replace R11:=hjd (a2b.a0o R11.out m20.kept)
     clear m20)
  | (go_at_call 32;(with_reducible refine(cm.out _ _ _ _ _ _ _ J.out R11.out R20.out).mono ?_);rintro e u21 ⟨b2,s2,g2,rfl,J2,k2,hb,hs,hg⟩
     replace K:=hjd (K.out.fresh k2 hB.out)
     replace J:=hjd J2
     obtain⟨BA,bc,rfl,e1⟩:=id hb
     obtain⟨SA,sc2,rfl,e2⟩:=id hs
     obtain⟨GA,gc,rfl,e3⟩:=id hg
     clear e1 e2 e3 J2 k2 R11 R20
     have HB:=hjd (show a2b [97] (.slice BA 1 bc) u21 from hb)
     have HS:=hjd hs
     have HG:=hjd hg
     clear hb hs hg)
  | ((with_reducible refine a0e 3 ?_);(refine a0h (o:=⟨some 3,_,_,_,_,_⟩) rfl rfl b0b ?_);intro g3 w3 m3
     refine a0c (cs:=#[.slice BA 1 bc,.slice SA 1 sc2,.slice GA 1 gc]) (o:=⟨none,Op.store 63 (.tmp 3) (.tmp 22),_,_,_,_⟩) b0i rfl (.tmp 3) (.tmp 22) rfl rfl rfl m3.blk rfl rfl (a6r _ _ _ _ _ _ _ _ _) ?_
     intro wb3 b3 k3
     have K3:=m3.kept.a0r k3 m3.le
     have N3:=hjd (show g3∉[b]from fun h=>by
      obtain⟨D,hD⟩:=J.out
      have h1:=hD.blt
      have h2:=m3.le
      rw [List.mem_singleton.1 h]at h2
      omega)
     have B3:=hjd b3
     replace K:=hjd (K.out.a0f K3)
     replace J:=hjd (RgJ.far J.out (by simp) J.out K3)
     replace HB:=hjd (a2b.a0o HB.out K3)
     replace HS:=hjd (HS.out.a0o K3)
     replace HG:=hjd (HG.out.a0o K3)
     clear m3 b3 k3 K3)
  | ((with_reducible refine a0e 28 ?_);refine a0v (by kernel_rfl) (a1s rfl (fun w=>by kernel_rfl) rfl (B3.out.cell 1)) ?_)
  | ((with_reducible refine a0e 34 ?_);refine a0d (cs:=#[.slice BA 1 bc,.slice SA 1 sc2,.slice GA 1 gc]) (o:=⟨some 34,_,_,_,_,_⟩) b0i (by kernel_rfl) (.tmp 3) rfl rfl B3.out rfl ?_)
  | ((with_reducible refine a0e 40 ?_);refine a0d (cs:=#[.slice BA 1 bc,.slice SA 1 sc2,.slice GA 1 gc]) (o:=⟨some 40,_,_,_,_,_⟩) b0i (by kernel_rfl) (.tmp 3) rfl rfl B3.out rfl ?_)
  | (go_at_call 34;(with_reducible refine(c5.out _ _ _ _ _ _ _ J.out HB.out HS.out HG.out).mono ?_);rintro e u35 ⟨rfl,J2,k2⟩
     replace HB:=hjd (show a2b [97] (.slice BA 1 bc) _ from RgJ.rd (by decide) J.out k2 HB.out)
     replace HS:=hjd (RgJ.rd (by decide) J.out k2 HS.out)
     replace HG:=hjd (RgJ.rd (by decide) J.out k2 HG.out)
     replace K:=hjd (K.out.fresh k2 hB.out)
     replace B3:=hjd (B3.out.kept k2 N3.out)
     replace J:=hjd J2
     clear J2 k2)
  | (go_at_call 34;(with_reducible refine(c4.out _ _ _ _ _ _ _ J.out HB.out HS.out HG.out).mono ?_);rintro e u41 ⟨rfl,J2,k2⟩
     replace K:=hjd (K.out.fresh k2 hB.out)
     replace J:=hjd J2
     clear J2 k2 HB HS HG)
  | ((with_reducible refine a0e 46 ?_);refine a1j (cs:=#[.slice none 0 0,.slice none 0 0,.slice none 0 0]) (by kernel_rfl) rfl (by kernel_rfl) ?_)
  | (go_at_call 34;(with_reducible refine(cz.out _ _ _ _ J.out).mono ?_);rintro e u47 ⟨rfl,J2,k2⟩
     replace K:=hjd (K.out.fresh k2 hB.out)
     clear J2 k2))
 go_ret
 exact⟨rfl,K.out⟩
theorem c4k(w:World):Calls Try.prog 30 #[] w fun e w'=>e= .returned (.bool true)∧Kept [] w w':=by
 have hSG:(a8m (a4f 0) (a4w 5 [97])).length=64:=c2t _ _
 have hk:a3r 1= [b3n 0]:=rfl
 have o5:okR (a3r 1) 5 [97] 0 (a8m (a4f 0) (a4w 5 [97]))=true:=by
  unfold okR
  rw [b3v (by decide)]
  have:=e1t (a4f 0) (a4w 5 [97])
  simpa [a3q,b3n]using this
 have o4:okR (a3r 1) 4 [97] 0 (a8m (a4f 0) (a4w 5 [97]))=false:=by
  unfold okR
  rw [b3v (by decide)]
  have:=kr_no kr8_0
  simpa [a3q,b3n]using this
 have hf:a5u (a3r 1) 5 [97] [(0,a8m (a4f 0) (a4w 5 [97]))]=fun k=>if k=0 then some 0 else none:=by
  have e:a5u (a3r 1) 5 [97] [(0,a8m (a4f 0) (a4w 5 [97]))]=b1u (okR (a3r 1) 5 [97]) (fun _=>none) 0 (0,a8m (a4f 0) (a4w 5 [97])):=rfl
  rw [e]
  unfold b1u
  rw [if_pos ⟨by simp,by simp,rfl,o5⟩]
  rfl
 have hc:c0e (fun k=>if k=0 then some 0 else none)=1:=by decide
 have hp:a2q (fun k=>if k=0 then some 0 else none) 1 7= [0]:=by decide
 have hl:b9y (a3r 1).length=1:=by rw [a3q];rfl
 generalize hSe:a8m (a4f 0) (a4w 5 [97])=SG at *
 refine c1s (keys:=a3r 1) (a4a 0) hSG (fun u=>?_) (fun u v hv=>?_) (fun r b kv u bw A c J hb hs=>?_) (fun r b kv u bw sv gv J hb hs hg=>?_) (fun r b kv u bw sv gv J hb hs hg=>?_) (fun r b kv u J=>?_) w
 ·refine(e0u 0 (by decide) u).mono ?_
  rintro e w' ⟨r,b,kv,sv,rfl,h1,h2,h3,h4⟩
  exact⟨r,b,kv,sv,rfl,⟨_,h1⟩,by simpa [a4y]using h2,h3,h4⟩
 ·have:=b8y (seed:=a4f 0) 5 (a4a 0) v [97] u hv (by simp)
  rw [hSe]at this
  exact this
 ·have:=b9s J 5 (sh:=[(0,SG)]) (body:=[97]) bw (SA:=A) (sc:=c) hb (by simp) (by simpa using hs) (by simpa using hSG) (by simp)
  rw [hf,hl,hc,hp]at this
  refine this.mono ?_
  rintro e w' ⟨hj,k,⟨h,_⟩ | ⟨_,b2,s2,g2,rfl,h1,h2,h3⟩⟩
  ·omega
  ·exact⟨b2,s2,g2,rfl,hj,k,h1,by simpa using h2,by simpa [a8l]using h3⟩
 ·have:=a9o J 5 (ns:=[0]) (gs:=[SG]) (body:=[97]) bw sv gv hb (by simp) (by simpa using hs) (by simpa using hg) (by simpa using hSG) (by simp) (by simp)
  have e:a5f (b9y (a3r 1).length) (a3r 1).length (okR (a3r 1) 5 [97]) [0] [SG]=0:=by
   rw [hl,a3q]
   unfold a5f
   rw [if_neg (by simp),if_neg (by decide),if_pos]
   intro k hk
   obtain rfl:k=0:=by simpa using hk
   exact o5
  rw [e]at this
  exact this
 ·have:=a9o J 4 (ns:=[0]) (gs:=[SG]) (body:=[97]) bw sv gv hb (by simp) (by simpa using hs) (by simpa using hg) (by simpa using hSG) (by simp) (by simp)
  have e:a5f (b9y (a3r 1).length) (a3r 1).length (okR (a3r 1) 4 [97]) [0] [SG]=60:=by
   rw [hl,a3q]
   unfold a5f
   rw [if_neg (by simp),if_neg (by decide),if_neg]
   intro h
   have:=h 0 (by simp)
   rw [show okR (a3r 1) 4 [97] (([0]:List Int).getD 0 0).toNat ([SG].getD 0 [])=false from o4]at this
   cases this
  rw [e]at this
  exact this
 ·have:=a9o J 5 (ns:=[]) (gs:=[]) (body:=[]) (.slice none 0 0) (.slice none 0 0) (.slice none 0 0) (Rd.nil _ _) (by simp) (Rd.nil _ _) (Rd.nil _ _) (by simp) (by simp) (by simp)
  have e:a5f (b9y (a3r 1).length) (a3r 1).length (okR (a3r 1) 5 []) [] []=80:=by
   rw [hl]
   unfold a5f
   rw [if_pos (by simp)]
  rw [e]at this
  exact this
end Go.Proofs.Ytdbngnlpafcogaa
namespace Go.Proofs.Ytdbngnlpafcogaa
open Go.RowKit Go.Mem Go.Txt
section
variable {e:TypeId} {s n c g o:Nat}
variable {P:Program} {w:World} {o':Oper} {a:Act} {C:Act→World→Prop} {R:Exit→Act→World→Prop} {ops:Array Oper} {rest:List Oper} {Q:Exit→Act→World→Prop} {t:TypeId}
theorem a6f(hgd:Region.wanted o' (yielded ops a.tmps)=true){bt:TypeId}{b off:Nat}{v:Value}{cs:Array Value}(x y:Operand)(ho:o'.op= .store t x y)(hx:a.eval x= .pointer (some ⟨b,off,none⟩))(hy:a.eval y=v)(h1:v.oneCell'=true)
 (hs:(P.info? t).map (·.size)=some 1) (hb:Blk w b bt cs) (hl:off < cs.size) (h:∀w',Blk w' b bt (cs.setIfInBounds off v)→Kept [b] w w'→wpList P ops Q rest (a.put o'.dst undef) w'):wpList P ops Q (o' :: rest) a w:=
 a1o hgd fun _ hK=>b5q x y ho hx hy h1 hs hb hl fun w' h2 h3=>hK _ _ (h w' h2 h3)
end
structure CO (w1:World) (g10:Nat) (bd:List UInt8) (ns:List Int) (bs:List UInt8) (n:Nat) (bw sv gv:Value) (u:World):Prop where
 k:Kept [] w1 u
 gg:w1.heap.size≤g10
 b:Blk u g10 63 #[bw,sv,gv]
 m:Ow u 5 1 bw bd.length (bv bd)
 mf:∀k,bw.ownBlock=some k→w1.heap.size≤k
 s:Ow u 3 1 sv ns.length (iv ns)
 sf:∀k,sv.ownBlock=some k→w1.heap.size≤k
 g:Ow u 24 64 gv n (bv bs)
 gf:∀k,gv.ownBlock=some k→w1.heap.size≤k
section
variable {w1:World} {g10:Nat} {bd bd':List UInt8} {ns ns':List Int} {bs bs':List UInt8} {n n':Nat} {bw sv gv v':Value} {u uc u2:World}
theorem CO.a0o(h:CO w1 g10 bd ns bs n bw sv gv u)(hk:Kept [] u u2):CO w1 g10 bd ns bs n bw sv gv u2:=
 ⟨h.k.a0f hk,h.gg,h.b.kept hk (by simp),h.m.a0o hk,h.mf,h.s.a0o hk,h.sf,h.g.a0o hk,h.gf⟩
theorem b8s{v v':Value}{k0 k1:Nat}(hf:∀k,v.ownBlock=some k→k0≤k)(hk:k0≤k1)(hn:v'.ownBlock=v.ownBlock∨∀k,v'.ownBlock=some k→k1≤k):∀k,v'.ownBlock=some k→k0≤k:=by
 intro k h
 rcases hn with e | e
 ·exact hf k (e▸h)
 ·exact Nat.le_trans hk (e k h)
theorem nearW{v':Value}{ob:Option Nat}{k1:Nat}(h:v'.ownBlock=ob∨v'.ownBlock=some k1):v'.ownBlock=ob∨∀k,v'.ownBlock=some k→k1≤k:=
 h.imp id fun e k hk=>by
  rw [e]at hk
  cases hk
  exact Nat.le_refl _
theorem CO.b1l(h:CO w1 g10 bd ns bs n bw sv gv u)(kc:Kept sv.ownBlock.toList u uc)(ho:Ow uc 3 1 v' ns'.length (iv ns'))(hn:v'.ownBlock=sv.ownBlock∨∀k,v'.ownBlock=some k→u.heap.size≤k)(b2:Blk u2 g10 63 #[bw,v',gv])(k2:Kept [g10] uc u2):CO w1 g10 bd ns' bs n bw v' gv u2:=by
 have far:∀{e s n v xs},Ow u e s v n xs→e≠63→e≠3→Ow u2 e s v n xs:=fun o he hi=>
  (o.kept kc fun k hk hm=>o.ne_ h.s hi k hk (Option.mem_toList.1 hm)).kept k2 fun k hk hm=>by
    rw [List.mem_singleton.1 hm]at hk
    exact o.a5x h.b he hk
 have bc:Blk uc g10 63 #[bw,sv,gv]:=h.b.kept kc fun hk=>h.s.a5x h.b (by decide) (Option.mem_toList.1 hk)
 exact⟨(h.k.fresh kc (fun k hk=>h.sf k (Option.mem_toList.1 hk))).fresh k2 (by simpa using h.gg),h.gg,b2,far h.m (by decide) (by decide),h.mf,
  ho.kept k2 (fun k hk hm=>by rw [List.mem_singleton.1 hm]at hk;exact ho.a5x bc (by decide) hk),b8s h.sf h.k.size hn,far h.g (by decide) (by decide),h.gf⟩
end
end Go.Proofs.Ytdbngnlpafcogaa
namespace Go.Proofs.Ytdbngnlpafcogaa
open Go.RowKit Go.Mem Go.Txt
theorem mod_n(x:Int){m:Nat}(h0:0 < m)(hm:m≤1000):∃n:Nat,wrap64 ((IntKind.u64.wrap x).tmod (m:Int))=n∧n < m:=by
 rw [show IntKind.u64.wrap x=x % 18446744073709551616 from rfl]
 have h1:0≤x % 18446744073709551616:=by omega
 rw [Int.tmod_eq_emod_of_nonneg h1]
 have h2:=Int.emod_nonneg (x % 18446744073709551616) (show(m:Int)≠0 by omega)
 have h3:=Int.emod_lt_of_pos (x % 18446744073709551616) (show(0:Int) < m by omega)
 refine⟨(x % 18446744073709551616 % m).toNat,?_,by omega⟩
 rw [IntWalk.wrap64_in _ (by omega)]
 omega
theorem e3a:EntT Try.prog 24 5 64 1:=⟨Try.underlying24,by kernel_rfl,by kernel_rfl,by decide⟩
theorem d8q{g q i:Nat}(hi:i < 64)(k:IntKind)(W:World):(Instr.indexAt 24 (.pointer (some ⟨g,q,none⟩)) (.int k (i:Int))).run Try.prog W= .ok (.pointer (some ⟨g,q + i,none⟩)) W:=by
 obtain⟨inf,hinf,hs⟩:=Option.map_eq_some_iff.1 e3a.s
 have h1:(0:Int)≤i∧(i:Int) < (64:Nat):=by omega
 simp only [Instr.indexAt,run_underlying e3a.u,Instr.sureAddr,asIntOf,Sem.run_bind,Sem.run_pure,Result.andThen_ok,h1,and_self,if_true,run_sizeOf W hinf,Int.toNat_natCast,e3a.c]
 congr 3
 unfold Addr.add
 split
 ·rename_i h0
  have:i=0:=by omega
  subst this
  rfl
 ·simp
end Go.Proofs.Ytdbngnlpafcogaa
namespace Go.Proofs.Ytdbngnlpafcogaa
open Go.RowKit Go.Mem Go.Txt
def badO(n:Nat)(ns:List Int)(i:Nat):Prop:=ns.getD i 0 < 0∨(n:Int)≤ns.getD i 0∨(0 < i∧ns.getD i 0≤ns.getD (i - 1) 0)
instance (n:Nat) (ns:List Int) (i:Nat):Decidable (badO n ns i):=by unfold badO;infer_instance
end Go.Proofs.Ytdbngnlpafcogaa
namespace Go.Proofs.Ytdbngnlpafcogaa
open Go.RowKit Go.Mem Go.Txt
theorem e3e(x:Int):∃n:Nat,wrap64 ((IntKind.u64.wrap x).tmod 3)=n∧n < 3:=by
 rw [show IntKind.u64.wrap x=x % 18446744073709551616 from rfl]
 have h0:0≤x % 18446744073709551616:=by omega
 rw [Int.tmod_eq_emod_of_nonneg h0]
 refine⟨(x % 18446744073709551616 % 3).toNat,?_,by omega⟩
 rw [IntWalk.wrap64_in _ (by omega)]
 omega
theorem c4m{n i:Nat}(h:i < n):∃pre post,(a4y n).flatMap bv=pre ++ (bv (a4f i) ++ post)∧pre.length=i * 32:=by
 have:=a6b (keys:=a4y n) (i:=i) (by rw [b2k];exact h) (b6t _)
 rwa [c0o h]at this
theorem b1k{w1 u:World}{n m sb so sc:Nat}(h:Rd w1 32 (.slice (some ⟨sb,so,none⟩) n sc) n ((a4y n).flatMap bv))(hk:Kept [] w1 u)(hm:m < n):u.rangeAt sb (so + m * 32) (bv (a4f m)):=by
 obtain⟨pre,post,hp,hpl⟩:=c4m hm
 exact Rd.elem (i:=m) (h.a0o hk) hp hpl (by omega)
theorem arrS9:ArrT Try.prog 24 5 64:=⟨Try.underlying24,by kernel_rfl⟩
end Go.Proofs.Ytdbngnlpafcogaa
namespace Go.Proofs.Ytdbngnlpafcogaa
open Go.RowKit Go.Mem Go.Txt
def pickP(l:List UInt8)(j:Nat):Prop:=l.length≤j∨0 < (l.getD j 0).toNat % 3
instance (l:List UInt8) (j:Nat):Decidable (pickP l j):=by unfold pickP;infer_instance
theorem a6u:RowT Try.prog 60 65:=⟨⟨_,Try.underlying60,rfl⟩,by kernel_rfl⟩
theorem a2m(p:Shr):∀u∈shC p,u.oneCell'=true:=by
 intro u hu
 simp only [shC,List.mem_cons]at hu
 rcases hu with rfl | hu
 ·rfl
 ·exact a5t _ u hu
end Go.Proofs.Ytdbngnlpafcogaa
namespace Go.Mem
open Go.RowKit Go.Txt
section
variable {P:Program} {w:World} {a:Act} {ops:Array Oper} {rest:List Oper} {o:Oper} {Q:Exit→Act→World→Prop} {t bt:TypeId} {k g off:Nat}
theorem c3b{pre mid post q:List Value}(h:Blk w g bt (pre ++ mid ++ post).toArray)(hp:pre.length=off)(hm:mid.length=q.length):Blk (w.setCells g off q) g bt (pre ++ q ++ post).toArray:=by
 obtain⟨cs',h1,h2,h3⟩:=Blk.setCells q off _ _ h
 have e:cs'=(pre ++ q ++ post).toArray:=by
  refine Array.ext_getElem? fun j=>?_
  rw [h3 j]
  simp only [List.size_toArray,List.length_append,List.getElem?_toArray]at h2 ⊢
  by_cases h4:j < off
  ·rw [if_neg (by omega),List.append_assoc,List.append_assoc,List.getElem?_append_left (by omega),List.getElem?_append_left (by omega)]
  ·by_cases h5:j < off + q.length
   ·rw [if_pos (by omega),List.append_assoc,List.getElem?_append_right (by omega),List.getElem?_append_left (by omega),hp]
   ·rw [if_neg (by omega),List.append_assoc,List.append_assoc,List.getElem?_append_right (by omega),List.getElem?_append_right (by omega),List.getElem?_append_right (by omega),List.getElem?_append_right (by omega),hm]
 rw [←e]
 exact h1
theorem a9h(T:RowT P t k)(hgd:Region.wanted o (yielded ops a.tmps)=true)(x y:Operand)(ho:o.op= .store t x y)(hx:a.eval x= .pointer (some ⟨g,off,none⟩)){pre mid post q:List Value}(hy:a.eval y= .agg q.toArray)
 (hb:Blk w g bt (pre ++ mid ++ post).toArray) (hp:pre.length=off) (hm:mid.length=k) (hq:q.length=k) (h1:q.toArray.all (·.oneCell')=true)
 (h:∀w',Blk w' g bt (pre ++ q ++ post).toArray→Kept [g] w w'→wpList P ops Q rest (a.put o.dst undef) w'):wpList P ops Q (o :: rest) a w:=
 a1o hgd fun _ hK=>wp_store_mid t x y ho g off q.toArray hx hy (hb.there (by simp;omega)) (by rw [T.2,List.size_toArray,hq]) h1 (hK _ _ (h _ (c3b hb hp (by rw [hm,hq])) (Kept.setCells q off w)))
end
end Go.Mem
namespace Go.Mem
open Go.RowKit
section
variable {P:Program} {w:World} {ops:Array Oper} {rest:List Oper} {o:Oper} {a:Act} {Q:Exit→Act→World→Prop} {t e:TypeId} {s bytes:Nat} {z:Value}
theorem d5e(T:SliceT P t e s bytes z)(hgd:Region.wanted o (yielded ops a.tmps)=true)(x y:Operand)(ho:o.op= .makeSlice t x y){n:Nat}(hx:a.eval x= .int .i64 (n:Int))(hy:a.eval y= .int .i64 (n:Int))(hb:bytes * n≤281474976710656)(h63:n≤9223372036854775807)
 (h:∀g w',Made w w' g e (madeCells z.cells (n * s))→wpList P ops Q rest (a.put o.dst (.slice (some ⟨g,0,none⟩) n n)) w'):wpList P ops Q (o :: rest) a w:=
 a1o hgd fun K hK=>by
  obtain⟨i,hi,hz,hs,hby⟩:=info_parts T.2
  have hr:=run_make (P:=P) w t e i z T.under hi hz .i64 .i64 (n:Int) (n:Int) (by omega) (Int.le_refl _) (by have h2:=Int.ofNat_le.2 hb;rw [Int.natCast_mul]at h2;rw [hby];exact h2) (by omega)
  unfold Oper.wp execOp
  simp only [ho,hx,hy,Sem.run_bind,hr,Sem.run_pure,Result.andThen_ok,Int.toNat_natCast,hs]
  exact hK _ _ (h _ _ ⟨Blk.new _ _ _,(Kept.refl _ _).alloc _,Nat.le_refl _⟩)
end
end Go.Mem
namespace Go.Proofs.Ytdbngnlpafcogaa
open Go.RowKit Go.Mem Go.Txt
def a5v(p:Int × Bool × Bool):List Value:=[.int .i64 p.1,.bool p.2.1,.bool p.2.2]
theorem partsT:SliceT Try.prog 69 72 3 16 (.agg (a5v (0,false,false)).toArray):=⟨Try.underlying69,by kernel_rfl,rfl,by omega⟩
theorem partR:RowT Try.prog 72 3:=⟨⟨_,Try.underlying72,rfl⟩,by kernel_rfl⟩
theorem d8h(t:Int × Bool × Bool):(a5v t).toArray.all (·.oneCell')=true:=by simp [a5v,Value.oneCell']
theorem d6o:(Try.prog.info? 72).map (·.zero)=some (some (.agg #[.int .i64 0,.bool false,.bool false])):=by kernel_rfl
theorem a5z:SliceT Try.prog 70 4 1 1 (.bool false):=⟨Try.underlying70,by kernel_rfl,rfl,by omega⟩
theorem d3a:(Try.prog.info? 60).map (·.zero)=some (some (.agg (shC (0,a0q 64)).toArray)):=by kernel_rfl
theorem c0z(n:Int):Try.prog.built 60 [(0,.int .i64 n)]=some (shC (n,a0q 64)).toArray:=by kernel_rfl
theorem d6t{w1 u:World}{ts:List (Int × Bool × Bool)}{A:Option Addr}{c i:Nat}(hk:Kept [] w1 u)(h:Rd w1 3 (.slice A ts.length c) ts.length (ts.flatMap a5v))(hi:i < ts.length):∀g o c2,Value.slice A ts.length c= .slice (some ⟨g,o,none⟩) ts.length c2→u.rangeAt g (o + i * 3) (a5v (ts.getD i (0,false,false))):=by
 intro g o c2 e
 cases e
 have e:ts=ts.take i ++ (ts.getD i (0,false,false) :: ts.drop (i + 1)):=by
  rw [List.getD_eq_getElem?_getD,List.getElem?_eq_getElem hi]
  simp
 have hl:∀l:List (Int × Bool × Bool),(l.flatMap a5v).length=l.length * 3:=by
  intro l
  induction l with
  | nil=>rfl
  | cons x l ih=>rw [List.flatMap_cons,List.length_append,ih];simp [a5v];omega
 refine Rd.elem (i:=i) (pre:=(ts.take i).flatMap a5v) (post:=(ts.drop (i + 1)).flatMap a5v) (h.a0o hk) ?_ ?_ (by omega)
 ·conv=>lhs;rw [e]
  rw [List.flatMap_append,List.flatMap_cons]
 ·rw [hl,List.length_take,Nat.min_eq_left (by omega)]
theorem d3s(p:Shr):(shC p).toArray.all (·.oneCell')=true:=by
 rw [Array.all_eq_true']
 intro u hu
 exact a2m p u (by simpa using hu)
def c6x(R:Nat→Bool)(k:Nat):List Value:=[.bool (R k)]
def d7y(G:Nat→List UInt8)(k:Nat):List Value:=bv (G k)
theorem c9b(k:Nat)(hk:k≤2):madeCells (Value.bool false).cells ((3 * k + 1) * 1)=(rws (3 * k + 1) (c6x fun _=>false)).toArray:=by
 obtain rfl | rfl | rfl:k=0∨k=1∨k=2:=by omega
 all_goals kernel_rfl
theorem d3f(k:Nat)(hk:k≤2):madeCells (ab (a0q 64)).cells ((3 * k + 1) * 64)=(rws (3 * k + 1) (d7y fun _=>a0q 64)).toArray:=by
 obtain rfl | rfl | rfl:k=0∨k=1∨k=2:=by omega
 all_goals kernel_rfl
structure CX (w1:World) (g11 g12 n:Nat) (R:Nat→Bool) (G:Nat→List UInt8) (xs:List Shr) (x10:Value) (u:World):Prop where
 k:Kept [] w1 u
 r:Blk u g11 4 (rws n (c6x R)).toArray
 g:Blk u g12 24 (rws n (d7y G)).toArray
 rf:w1.heap.size≤g11
 gf:w1.heap.size≤g12
 s:Ow u 60 65 x10 xs.length (xs.flatMap shC)
 sf:∀k,x10.ownBlock=some k→w1.heap.size≤k
structure Off (w1:World) (g11 g12:Nat) (x10:Value) (g:Nat):Prop where
 f:w1.heap.size≤g
 a:g11≠g
 b:g12≠g
 c:x10.ownBlock≠some g
section
variable {w1 u u2:World} {g11 g12 n g:Nat} {R:Nat→Bool} {G:Nat→List UInt8} {xs:List Shr} {x10:Value}
theorem CX.a0o(h:CX w1 g11 g12 n R G xs x10 u)(hk:Kept [] u u2):CX w1 g11 g12 n R G xs x10 u2:=
 ⟨h.k.a0f hk,h.r.kept hk (by simp),h.g.kept hk (by simp),h.rf,h.gf,h.s.a0o hk,h.sf⟩
theorem CX.off(h:CX w1 g11 g12 n R G xs x10 u)(hg:u.heap.size≤g):Off w1 g11 g12 x10 g:=
 ⟨Nat.le_trans h.k.size hg,by have:=h.r.lt;omega,by have:=h.g.lt;omega,fun e=>by have:=h.s.lt e;omega⟩
theorem CX.write(h:CX w1 g11 g12 n R G xs x10 u)(o:Off w1 g11 g12 x10 g)(hk:Kept [g] u u2):CX w1 g11 g12 n R G xs x10 u2:=
 ⟨h.k.a0r hk o.f,h.r.kept hk (by simpa using o.a),h.g.kept hk (by simpa using o.b),h.rf,h.gf,h.s.kept hk (fun k e hm=>o.c (by rw [e,List.mem_singleton.1 hm])),h.sf⟩
theorem CX.setR(h:CX w1 g11 g12 n R G xs x10 u){m:Nat}(hb:Blk u2 g11 4 (rws n (fun j=>if j=m then [.bool true]else c6x R j)).toArray)(hk:Kept [g11] u u2):CX w1 g11 g12 n (fun j=>if j=m then true else R j) G xs x10 u2:=by
 refine⟨h.k.a0r hk h.rf,?_,h.g.kept hk (by simpa using(h.g.ne_ h.r (by decide))),h.rf,h.gf,h.s.kept hk (fun k e hm=>h.s.a5x h.r (by decide) (by rw [e,List.mem_singleton.1 hm])),h.sf⟩
 have e:rws n (c6x fun j=>if j=m then true else R j)=rws n (fun j=>if j=m then [.bool true]else c6x R j):=a8v n fun i _=>by
  show [Value.bool (if i=m then true else R i)]=if i=m then [Value.bool true]else c6x R i
  by_cases hi:i=m
  ·rw [if_pos hi,if_pos hi]
  ·rw [if_neg hi,if_neg hi];rfl
 rw [e]
 exact hb
theorem CX.setG(h:CX w1 g11 g12 n R G xs x10 u){m:Nat}{sg:List UInt8}(hb:Blk u2 g12 24 (rws n (fun j=>if j=m then bv sg else d7y G j)).toArray)(hk:Kept [g12] u u2):CX w1 g11 g12 n R (fun j=>if j=m then sg else G j) xs x10 u2:=by
 refine⟨h.k.a0r hk h.gf,h.r.kept hk (by simpa using(h.r.ne_ h.g (by decide))),?_,h.rf,h.gf,h.s.kept hk (fun k e hm=>h.s.a5x h.g (by decide) (by rw [e,List.mem_singleton.1 hm])),h.sf⟩
 have e:rws n (d7y fun j=>if j=m then sg else G j)=rws n (fun j=>if j=m then bv sg else d7y G j):=a8v n fun i _=>by
  show bv (if i=m then sg else G i)=if i=m then bv sg else d7y G i
  by_cases hi:i=m
  ·rw [if_pos hi,if_pos hi]
  ·rw [if_neg hi,if_neg hi];rfl
 rw [e]
 exact hb
theorem CX.b1l(h:CX w1 g11 g12 n R G xs x10 u){x':Value}{p:Shr}(ho:Ow u2 60 65 x' (xs.length + 1) (xs.flatMap shC ++ shC p))(hk:Kept x10.ownBlock.toList u u2)(hn:x'.ownBlock=x10.ownBlock∨x'.ownBlock=some u.heap.size):CX w1 g11 g12 n R G (xs ++ [p]) x' u2:=
 ⟨h.k.fresh hk (fun k hk=>h.sf k (Option.mem_toList.1 hk)),h.r.kept hk (fun hm=>h.s.a5x h.r (by decide) (Option.mem_toList.1 hm)),h.g.kept hk (fun hm=>h.s.a5x h.g (by decide) (Option.mem_toList.1 hm)),h.rf,h.gf,by simpa using ho,b8s h.sf h.k.size (nearW hn)⟩
theorem CX.lr(h:CX w1 g11 g12 n R G xs x10 u){m:Nat}(hm:m < n):u.cell? ⟨g11,m,none⟩=some (.bool (R m)):=by
 have:=h.r.row (k:=1) (i:=m) (fun _=>rfl) hm
 have:=this 0 (.bool (R m)) rfl
 simpa using this
end
theorem b2d{G:Nat→List UInt8}(h:∀k,(G k).length=64)(k:Nat):(d7y G k).length=64:=by
 unfold d7y
 simpa using h k
theorem a4q{t e:TypeId}{s bytes:Nat}{z:Value}(T:SliceT Try.prog t e s bytes z){n m:Nat}(h:m < n)(g:Nat)(W:World):(Instr.indexAt t (.slice (some ⟨g,0,none⟩) n n) (.int .i64 (m:Int))).run Try.prog W= .ok (.pointer (some ⟨g,s * m,none⟩)) W:=by
 have:=a5o (P:=Try.prog) (g:=g) (off:=0) (n:=n) (c:=n) (i:=m) T h .i64 W
 rw [Nat.zero_add,Nat.mul_comm]at this
 exact this
theorem xorN1:∀n:_root_.Fin 256,bits .xor .u8 (n.val:Int) 1=((n.val ^^^ 1:Nat):Int):=by decide +kernel
theorem d1n(a:UInt8):bits .xor .u8 (a.toNat:Int) 1=((a ^^^ 1).toNat:Int):=by
 have h:=a.toNat_lt
 have:=xorN1 ⟨a.toNat,h⟩
 rw [this,UInt8.toNat_xor]
 rfl
theorem a4p{w:World}{g:Nat}{e:TypeId}{n:Int}{sg:List UInt8}(h:Blk w g e (shC (n,sg)).toArray):w.rangeAt g 1 (bv sg):=fun j v hj=>by
 rw [h.cell]
 show(shC (n,sg)).toArray[1 + j]?=some v
 rw [Nat.add_comm]
 simpa [shC]using hj
theorem d1y(n:Nat)(R:Nat→Bool):rws n (c6x R)=(List.range n).map fun k=>Value.bool (R k):=by
 unfold rws c6x
 induction List.range n with
 | nil=>rfl
 | cons a l ih=>simp [ih]
theorem a9t{n m:Nat}{R:Nat→Bool}(_:m < n):(rws n (c6x R)).toArray.setIfInBounds (1 * m) (.bool true)=(rws n (fun j=>if j=m then [Value.bool true]else c6x R j)).toArray:=by
 have e:(fun j=>if j=m then [Value.bool true]else c6x R j)=c6x fun j=>if j=m then true else R j:=by
  funext j
  show(if j=m then [Value.bool true]else c6x R j)= [Value.bool (if j=m then true else R j)]
  by_cases h:j=m
  ·rw [if_pos h,if_pos h]
  ·rw [if_neg h,if_neg h];rfl
 rw [e,d1y,d1y,List.setIfInBounds_toArray,Nat.one_mul]
 congr 1
 refine List.ext_getElem? fun j=>?_
 rw [List.getElem?_set]
 by_cases h:m=j
 ·subst h
  simp [*]
 ·simp [h,Ne.symm h]
  by_cases hj:j < n
  ·simp [hj,show j≠m from fun e=>h e.symm]
  ·simp [hj]
theorem c0u{w:World}{g:Nat}{n:Int}{sg:List UInt8}(h:Blk w g 60 (shC (n,sg)).toArray)(v:UInt8):(shC (n,sg)).toArray.setIfInBounds 6 (a2r v)=(shC (n,sg.set 5 v)).toArray:=by
 rw [List.setIfInBounds_toArray]
 congr 1
 unfold shC
 rw [List.set_cons_succ]
 congr 1
 unfold bv
 rw [List.map_set]
section
variable {P:Program} {W:World} {a:Act} {o:Oper}
theorem b9w{x:Operand}{t:TypeId}{b:Bool}(ho:o.op= .unOp .not t x)(hx:a.eval x= .bool b):(execOp a.eval o).run P W= .ok (.value (.bool (!b))) W:=by
 have h:(Op.unary UnOp.not (Value.bool b)).run P W= .ok (.bool (!b)) W:=by cases b <;> rfl
 simp [execOp,ho,hx,h]
theorem e0k{x y:Operand}{t':TypeId}{i:Int}(ho:o.op= .binOp .neq 3 x y t')(hx:a.eval x= .int .i64 i)(hy:a.eval y= .int .i64 i):(execOp a.eval o).run Try.prog W= .ok (.value (.bool false)) W:=by
 simp [execOp,ho,hx,hy,binOp,Op.intCmp,eqGuard]
theorem x_str{x:Operand}{v:Value}{bs:List UInt8}(ho:o.op= .convert 23 9 x)(hx:a.eval x=v)(hr:a2b bs v W):(execOp a.eval o).run Try.prog W= .ok (.value (.string (mkS bs))) W:=by
 have h:=d1x (P:=Try.prog) (s:=23) (d:=9) (e:=5) rfl rfl rfl hr
 simp [execOp,ho,hx,h]
theorem x_neqs{x y:Operand}{s:ByteArray}{t':TypeId}(ho:o.op= .binOp .neq 9 x y t')(hx:a.eval x= .string s)(hy:a.eval y= .string s):(execOp a.eval o).run Try.prog W= .ok (.value (.bool false)) W:=by
 have h1:=run_equalIn_string (P:=Try.prog) W 9999 9 s s Try.underlying9
 simp [execOp,ho,hx,hy,binOp,Op.equal,Op.maxDepth,h1,eqGuard,Op.stringOp]
end
structure CY (w:World) (r b g11 g12 g19 n:Nat) (kv:Value) (keys:List (List UInt8)) (R:Nat→Bool) (G SG:Nat→List UInt8) (sh:List Shr) (x10:Value) (body:List UInt8) (bw b2 s2 g2:Value) (L:List Nat) (u:World):Prop where
 k:Kept [] w u
 j:RgJ r b kv keys u
 r:Blk u g11 4 (rws n (c6x R)).toArray
 g:Blk u g12 24 (rws n (d7y G)).toArray
 s:Rd u 65 x10 sh.length (sh.flatMap shC)
 bo:a2b body bw u
 c:Blk u g19 63 #[b2,s2,g2]
 mb:a2b body b2 u
 ms:Rd u 1 s2 L.length (iv (L.map fun(i:Nat)=>(i:Int)))
 mg:Rd u 64 g2 L.length (L.flatMap fun i=>bv (SG i))
 nb:∀q∈[b],w.heap.size≤q
 n1:g11∉[b]
 n2:g12∉[b]
 n3:g19∉[b]
section
variable {w u u2:World} {r b g11 g12 g19 n:Nat} {kv x10 bw b2 s2 g2:Value} {keys:List (List UInt8)} {R:Nat→Bool} {G SG:Nat→List UInt8} {sh:List Shr} {body:List UInt8} {L:List Nat}
theorem CY.a0o(h:CY w r b g11 g12 g19 n kv keys R G SG sh x10 body bw b2 s2 g2 L u)(hk:Kept [] u u2):CY w r b g11 g12 g19 n kv keys R G SG sh x10 body bw b2 s2 g2 L u2:=
 ⟨h.k.a0f hk,RgJ.far h.j (by simp) h.j hk,h.r.kept hk (by simp),h.g.kept hk (by simp),h.s.a0o hk,a2b.a0o h.bo hk,h.c.kept hk (by simp),a2b.a0o h.mb hk,h.ms.a0o hk,h.mg.a0o hk,h.nb,h.n1,h.n2,h.n3⟩
theorem CY.keptb(h:CY w r b g11 g12 g19 n kv keys R G SG sh x10 body bw b2 s2 g2 L u)(hj:RgJ r b kv keys u2)(hk:Kept [b] u u2):CY w r b g11 g12 g19 n kv keys R G SG sh x10 body bw b2 s2 g2 L u2:=
 ⟨h.k.fresh hk h.nb,hj,h.r.kept hk h.n1,h.g.kept hk h.n2,RgJ.rd (by decide) h.j hk h.s,RgJ.rd (by decide) h.j hk h.bo,h.c.kept hk h.n3,RgJ.rd (by decide) h.j hk h.mb,RgJ.rd (by decide) h.j hk h.ms,RgJ.rd (by decide) h.j hk h.mg,h.nb,h.n1,h.n2,h.n3⟩
end
structure W2 (w1:World) (r b:Nat) (kv sdv:Value) (n:Nat) (keys:List (List UInt8)) (body:List UInt8) (bw:Value) (ps:List (Int × Bool × Bool)) (tv:Value):Prop where
 j:RgJ r b kv keys w1
 sd:Rd w1 32 sdv n ((a4y n).flatMap bv)
 bo:a2b body bw w1
 pu:Rd w1 3 tv ps.length (ps.flatMap a5v)
end Go.Proofs.Ytdbngnlpafcogaa
