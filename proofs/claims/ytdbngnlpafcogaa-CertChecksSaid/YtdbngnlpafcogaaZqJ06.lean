/-
  Certificates: which are right (Check).
  The ring: law 07's first lines.
  The document's ring: What.
  The ring: Key; a ring that is none; the document's Fits.
  Certificates: a ring's quorum makes them, and checks them.
  The certificates' laws: what must be answered ahead of everything else.
  The certificates' laws: some of the shares, as bytes pick them (some).
  The certificates' laws: what is made of shares is right (plain).
  The certificates' laws: two quorums meet (plain).
  The certificates' laws: a certificate of one's own that is turned.
  The certificates' laws: numbers and places that the turns need.
  The certificates' laws: what the law wants, beside what Check says (plain).
-/
import Derived.Test.YtdbngnlpafcogaaZqJ05
import Derived.Test.YtdbngnlpafcogaaZqJ03
import Derived.Test.YtdbngnlpafcogaaZqCt4
set_option maxRecDepth 100000
namespace Go.Proofs.Ytdbngnlpafcogaa
open Go.RowKit Go.Mem Go.Txt
theorem sigsT5:SliceT Try.prog 61 24 64 64 (ab (a0s 64)):=⟨Try.underlying61,by kernel_rfl,rfl,by omega⟩
theorem d9w:SliceT Try.prog 54 3 1 8 (.int .i64 0):=⟨Try.underlying54,by kernel_rfl,rfl,by omega⟩
def b5x(n:Nat):Int→List Int→Bool
 | _,[]=>true
 | last,i :: l=>decide (last < i) && decide (i < n) && b5x n i l
theorem b9e{n:Nat}:∀(l:List Int) (last:Int),b5x n last l=true→∀i∈l,last < i∧i < n
 | [],_,_,_,h=>by cases h
 | x :: l,last,h,i,hi=>by
   simp only [b5x,Bool.and_eq_true,decide_eq_true_eq]at h
   rcases List.mem_cons.1 hi with rfl | hi
   ·exact h.1
   ·have:=b9e l x h.2 i hi
    exact⟨by omega,this.2⟩
theorem a9u{u:World}{g o:Nat}{xs:List Value}(h:u.rangeAt g o xs){j:Nat}{v:Value}(hj:xs[j]?=some v):u.cell? ⟨g,o + j,none⟩=some v:=h j v hj
def a3n(q n:Nat)(ok:Nat→List UInt8→Bool)(ns:List Int)(gs:List (List UInt8)):Int:=
 if ns.length≠q∨gs.length≠q then 80 else if b5x n (-1) ns=false then 81 else if∀k,k < ns.length→ok (ns.getD k 0).toNat (gs.getD k [])=true then 0 else 60
structure CK (g5:Nat) (S:List Nat) (w:World) (J:World→Prop) (ns:List Int) (gs:List (List UInt8)) (body:List UInt8) (bw sv gv:Value) (u:World):Prop where
 j:J u
 k:Kept S w u
 b:Blk u g5 63 #[bw,sv,gv]
 s:Rd u 1 sv ns.length (iv ns)
 g:Rd u 64 gv gs.length (gs.flatMap bv)
 m:a2a body bw u
theorem CK.step{g5:Nat}{S:List Nat}{w:World}{J:World→Prop}{ns:List Int}{gs:List (List UInt8)}{body:List UInt8}{bw sv gv:Value}
 (hR:∀u u' s v n xs,0 < s→J u→Kept S u u'→Rd u s v n xs→Rd u' s v n xs) (hg:g5∉S) (u u':World) (h:CK g5 S w J ns gs body bw sv gv u) (hk:Kept S u u') (hj:J u'):CK g5 S w J ns gs body bw sv gv u':=
 ⟨hj,h.k.trans' hk,h.b.kept hk hg,hR _ _ _ _ _ _ (by omega) h.j hk h.s,hR _ _ _ _ _ _ (by omega) h.j hk h.g,hR _ _ _ _ _ _ (by omega) h.j hk h.m⟩
def d2w(b s g:Value):Value:=.agg #[b,s,g]
theorem c7z{ns:List Int}{k:Nat}(h:k < ns.length):iv ns=iv (ns.take k) ++ ([.int .i64 (ns.getD k 0)] ++ iv (ns.drop (k + 1))):=by
 have e:ns=ns.take k ++ (ns.getD k 0 :: ns.drop (k + 1)):=by
  rw [List.getD_eq_getElem?_getD,List.getElem?_eq_getElem h]
  simp
 conv=>lhs;rw [e]
 simp [iv]
theorem c6j{gs:List (List UInt8)}{k:Nat}(h:k < gs.length)(hl:∀g∈gs,g.length=64):∃pre post,gs.flatMap bv=pre ++ (bv (gs.getD k []) ++ post)∧pre.length=k * 64:=by
 have e:gs=gs.take k ++ (gs.getD k [] :: gs.drop (k + 1)):=by
  rw [List.getD_eq_getElem?_getD,List.getElem?_eq_getElem h]
  simp
 refine⟨(gs.take k).flatMap bv,(gs.drop (k + 1)).flatMap bv,?_,?_⟩
 ·conv=>lhs;rw [e]
  rw [List.flatMap_append,List.flatMap_cons]
 ·have:∀m,m≤gs.length→((gs.take m).flatMap bv).length=m * 64:=by
   intro m
   induction m with
   | zero=>simp
   | succ m ih=>
     intro hm
     rw [List.take_succ_eq_append_getElem (by omega),List.flatMap_append,List.length_append,ih (by omega)]
     simp [hl _ (List.getElem_mem _)]
     omega
  exact this k (by omega)
theorem c7a{gs:List (List UInt8)}{k:Nat}(h:k < gs.length)(hl:∀g∈gs,g.length=64):(gs.getD k []).length=64:=by
 rw [List.getD_eq_getElem?_getD,List.getElem?_eq_getElem h]
 exact hl _ (List.getElem_mem _)
theorem d8n{ns:List Int}{k:Nat}(h:k < ns.length):ns.drop k=ns.getD k 0 :: ns.drop (k + 1):=by
 rw [List.getD_eq_getElem?_getD,List.getElem?_eq_getElem h]
 simp
set_option maxHeartbeats 3200000 in
theorem d4d(tv bw sv gv:Value)(w:World):Calls Try.prog 34 #[.pointer none,tv,d2w bw sv gv] w fun e w'=>e= .returned (.int .i64 80)∧Kept [] w w':=by
 unfold d2w
 go_enter Try.func34,Try.ntmps34
 go_upto_region 1 with(first
  | ((with_reducible refine a0e 5 ?_);(refine a0o (o:=⟨some 5,_,_,_,_,_⟩) (v:=.agg #[bw,sv,gv]) rfl (.tmp 2) rfl rfl ?_);intro g5 w5 m5
     have B5:=hjd (show Blk w5 g5 63 #[bw,sv,gv]from m5.blk);have K5:=hjd m5.kept;clear m5))
 have kd:=(Kept.refl [] w5).drew
 replace B5:=hjd (B5.out.kept kd (by simp))
 replace K5:=hjd (K5.out.a0f kd)
 refine Txt.a1i [4,12] (fun _=>True) [[_,_,_,_,_,_,_,_],[_,_,_,_,_,_,_,_],[_,_]] (by kernel_rfl) (by kernel_rfl) rfl trivial (Txt.a0g ?_)
 go_wp2_with fail
 refine And.intro rfl (And.intro trivial ?_)
 unfold Txt.a2q
 go_wp2_with fail
 refine And.intro rfl (And.intro trivial ?_)
 unfold Txt.a2q
 go_wp2_with fail
 refine And.intro rfl (And.intro trivial (Txt.a1d ⟨⟨by kernel_rfl,?_⟩,?_⟩))
 ·intro j hj o ho hw
  have hj2:j=4∨j=12:=by simpa using hj
  rcases hj2 with rfl | rfl <;> cases ho
  all_goals exact absurd (hw:Region.wanted _ _=true) (by rw [show Region.wanted _ _=false from by kernel_rfl];simp)
 go_wp2_with fail
 go_ret
 exact⟨rfl,K5.out⟩
set_option maxHeartbeats 3200000 in
theorem c8v{ns:List Int}{gs:List (List UInt8)}{body:List UInt8}{rp:Addr}{q n:Nat}{tag:UInt8}{S:List Nat}{J:World→Prop}{ok:Nat→List UInt8→Bool}(bw sv gv:Value)(w:World)
 (hb:a2a body bw w) (hs:Rd w 1 sv ns.length (iv ns)) (hg:Rd w 64 gv gs.length (gs.flatMap bv)) (hgl:∀g∈gs,g.length=64) (hn7:n≤7) (hJ0:J w) (hlen:ns.length≤140737488351900) (hlen2:gs.length≤140737488351900) (hq7:q≤7)
 (hSlt:∀k∈S,k < w.heap.size) (hJ:∀u u' X,(∀k∈X,w.heap.size≤k)→J u→Kept X u u'→J u') (hR:∀u u' s v n xs,0 < s→J u→Kept S u u'→Rd u s v n xs→Rd u' s v n xs)
 (co:∀(i:Nat) sig u v,i < n→sig.length=64→a2a body v u→J u→Calls Try.prog 15 #[.pointer (some rp),.int .i64 (i:Int),.int .u8 (tag.toNat:Int),v,ab sig] u fun e w'=>e= .returned (.bool (ok i sig))∧J w'∧Kept S u w')
 (cq:∀u,J u→Calls Try.prog 21 #[.pointer (some rp)] u fun e w'=>e= .returned (.int .i64 (q:Int))∧w'=u)
 (cz:∀u,J u→Calls Try.prog 19 #[.pointer (some rp)] u fun e w'=>e= .returned (.int .i64 (n:Int))∧w'=u) :
 Calls Try.prog 34 #[.pointer (some rp),.int .u8 (tag.toNat:Int),d2w bw sv gv] w fun e w'=>e= .returned (.int .i64 (a3n q n ok ns gs))∧J w'∧Kept S w w':=by
 replace hSlt:=hjd hSlt
 replace hJ:=hjd hJ
 replace hR:=hjd hR
 replace co:=hjd co
 replace cq:=hjd cq
 replace cz:=hjd cz
 replace hgl:=hjd hgl
 replace hb:=hjd hb
 replace hJ0:=hjd hJ0
 replace hn7:=hjd hn7
 replace hq7:=hjd hq7
 have hbS:=hb.out
 obtain⟨BA,bc,rfl,e1⟩:=hbS
 clear e1
 obtain⟨SA,sc,rfl,e1⟩:=id hs
 clear e1
 obtain⟨GA,gc,rfl,e1⟩:=id hg
 clear e1
 replace hs:=hjd hs
 replace hg:=hjd hg
 unfold d2w
 obtain⟨R,hRes⟩:∃R,a3n q n ok ns gs=R:=⟨_,rfl⟩
 replace hRes:=hjd hRes
 rw [hRes.out]
 go_enter Try.func34,Try.ntmps34
 go_upto_region 1 with(first
  | ((with_reducible refine a0e 5 ?_);(refine a0o (o:=⟨some 5,_,_,_,_,_⟩) (v:=.agg #[.slice BA body.length bc,.slice SA ns.length sc,.slice GA gs.length gc]) rfl (.tmp 2) rfl rfl ?_);intro g5 w5 m5
     have N5:=hjd (show g5∉S from fun h=>by have:=hSlt.out _ h;have:=m5.le;omega);have B5:=hjd (show Blk w5 g5 63 #[.slice BA body.length bc,.slice SA ns.length sc,.slice GA gs.length gc]from m5.blk);have K5:=hjd m5.kept;clear m5))
 have kd:=(Kept.refl [] w5).drew
 replace B5:=hjd (B5.out.kept kd (by simp))
 replace K5:=hjd (K5.out.a0f kd)
 have J1:=hjd (hJ.out _ _ [] (by simp) hJ0.out K5.out)
 replace hs:=hjd (hs.out.a0k K5.out)
 replace hg:=hjd (hg.out.a0k K5.out)
 replace hb:=hjd (a2a.a0k hb.out K5.out)
 have q1:=B5.out.cell 1
 have q2:=B5.out.cell 2
 by_cases h1:ns.length=q
 ·have b1:((ns.length:Int) !=(q:Int))=false:=by simp [h1]
  by_cases h2:gs.length=q
  ·have b2:((gs.length:Int) !=(q:Int))=false:=by simp [h2]
   replace h1:=hjd h1
   replace h2:=hjd h2
   refine Txt.a1i [4,12] (fun u=>Blk u g5 63 #[.slice BA body.length bc,.slice SA ns.length sc,.slice GA gs.length gc]) [[_,_,_,_,_,_,_,_],[_,_,_,_,_,_,_,_],[_,_]] (by kernel_rfl) (by kernel_rfl) rfl B5.out (Txt.a0g ?_)
   go_wp2_with (first
    | (go_at_call 21;(with_reducible refine(cq.out _ J1.out).mono ?_);rintro e v19 ⟨rfl,rfl⟩))
   refine And.intro rfl (And.intro B5.out ?_)
   unfold Txt.a2q
   go_wp2_with (first
    | (go_at_call 21;(with_reducible refine(cq.out _ J1.out).mono ?_);rintro e v27 ⟨rfl,rfl⟩))
   refine And.intro rfl (And.intro B5.out ?_)
   unfold Txt.a2q
   go_wp2_with fail
   refine And.intro rfl (And.intro B5.out (Txt.a1d ⟨⟨by kernel_rfl,?_⟩,?_⟩))
   ·intro j hj o ho hw
    have hj2:j=4∨j=12:=by simpa using hj
    rcases hj2 with rfl | rfl <;> cases ho
    ·exact⟨16,rfl,fun u hu=>a1e rfl (fun w=>by kernel_rfl) rfl (hu.cell 1)⟩
    ·exact⟨24,rfl,fun u hu=>a1e rfl (fun w=>by kernel_rfl) rfl (hu.cell 2)⟩
   have h12:=hjd (show ¬(ns.length≠q∨gs.length≠q)from fun h=>h.elim (fun h=>h h1.out) fun h=>h h2.out)
   have hl7:=hjd (show ns.length≤7 by have:=h1.out;have:=hq7.out;omega)
   clear b1 b2 h1
   have C1:=hjd (show CK g5 S w J ns gs body (.slice BA body.length bc) (.slice SA ns.length sc) (.slice GA gs.length gc) w5.drew from⟨J1.out,K5.out.of0,B5.out,hs.out,hg.out,hb.out⟩)
   clear J1 K5 B5 hs hg hb
   go_upto_region 5 with(first
    | ((with_reducible refine a0e 31 ?_);refine a0p (by kernel_rfl) (a1e rfl (fun w=>by kernel_rfl) rfl (C1.out.b.cell 1)) ?_))
   go_loopg [7,33] ns.length (fun f x7 x33 wk=>∃(j:Nat) (last:Int),j≤ns.length∧f + j=ns.length∧x33= .int .i64 (j:Int)∧x7= .int .i64 last∧Hid (-1≤last)∧Hid (b5x n (-1) ns=b5x n last (ns.drop j))∧Hid (CK g5 S w J ns gs body (.slice BA body.length bc) (.slice SA ns.length sc) (.slice GA gs.length gc) wk))
   case atStart=>exact⟨0,-1,Nat.zero_le _,by omega,rfl,rfl,hjd (by omega),hjd rfl,C1⟩
   case round=>
    obtain⟨j,last,hj,hf,rfl,rfl,hl1,ho,CC⟩:=hrel
    by_cases hlt:j < ns.length
    ·obtain⟨i,hi⟩:∃i,ns.getD j 0=i:=⟨_,rfl⟩
     have hd:=d8n hlt
     have hsp:=c7z hlt
     rw [hi]at hd hsp
     have ho2:=ho.out
     rw [hd]at ho2
     obtain⟨sb,so,sc2,e,e2,e3⟩:=CC.out.s.at_ (by omega)
     clear e2 e3
     cases e
     have E:=Rd.elem (i:=j) CC.out.s hsp (by simp [iv];omega) (by omega)
     have q0:=a9u E (j:=0) rfl
     rw [Nat.add_zero,Nat.mul_one]at q0
     clear E hsp hd hi
     replace ho2:=hjd ho2
     go_upto_region 7 with(first
      | ((with_reducible refine a0e 35 ?_);refine a1n (o:=⟨some 35,_,_,_,_,_⟩) d9w rfl (.tmp 31) (.tmp 33) rfl rfl rfl hlt ?_))
     by_cases hle:i≤last
     ·have e81:R=81:=by
       have h2:b5x n (-1) ns=false:=by rw [ho2.out];simp [b5x,show ¬last < i by omega]
       rw [←hRes.out];unfold a3n;rw [if_neg h12.out,if_pos h2]
      go_wp2_with fail
      go_ret
      exact⟨by rw [e81];rfl,CC.out.j,CC.out.k⟩
     ·by_cases hge:(n:Int)≤i
      ·have e81:R=81:=by
        have h2:b5x n (-1) ns=false:=by rw [ho2.out];simp [b5x,show ¬i < n by omega]
        rw [←hRes.out];unfold a3n;rw [if_neg h12.out,if_pos h2]
       go_wp2_with (first
        | (go_at_call 19;(with_reducible refine(cz.out _ CC.out.j).mono ?_);rintro e v43 ⟨rfl,rfl⟩))
       go_ret
       exact⟨by rw [e81];rfl,CC.out.j,CC.out.k⟩
      ·have ho3:=hjd (show b5x n (-1) ns=b5x n i (ns.drop (j + 1))from by rw [ho2.out];simp [b5x,show last < i by omega,show i < n by omega])
       have hli:=hjd (show -1≤i by have:=hl1.out;omega)
       clear ho ho2 hl1
       go_wp2_with (first
        | (go_at_call 19;(with_reducible refine(cz.out _ CC.out.j).mono ?_);rintro e v43 ⟨rfl,rfl⟩))
       go_roundg (ns.length - (j + 1))
       case measure=>omega
       case rel=>exact⟨j + 1,i,by omega,by omega,by go_num,rfl,hli,ho3,CC⟩
    ·obtain rfl:j=ns.length:=by omega
     have hord:=hjd (show b5x n (-1) ns=true from by rw [ho.out,List.drop_length];rfl)
     clear ho hl1 hf hj hlt
     go_upto_region 12 with(first
      | ((with_reducible refine a0e 49 ?_);refine a0p (by kernel_rfl) (a1e rfl (fun w=>by kernel_rfl) rfl (CC.out.b.cell 1)) ?_))
     go_loopg [51] ns.length (fun f x51 wk=>∃k:Nat,k≤ns.length∧f + k=ns.length∧x51= .int .i64 (k:Int)∧Hid (∀i,i < k→ok (ns.getD i 0).toNat (gs.getD i [])=true)∧Hid (CK g5 S w J ns gs body (.slice BA body.length bc) (.slice SA ns.length sc) (.slice GA gs.length gc) wk))
     case atStart=>exact⟨0,Nat.zero_le _,by omega,rfl,hjd (by simp),CC⟩
     case round=>
      clear CC
      obtain⟨k,hk,hf,rfl,ha,CC⟩:=hrel
      by_cases hlt:k < ns.length
      ·have hgk:=hjd (show k < gs.length by have:=h12.out;omega)
       obtain⟨m,hi,hm⟩:∃m:Nat,ns.getD k 0=(m:Int)∧m < n:=by
        have hmem:ns.getD k 0∈ns:=by rw [List.getD_eq_getElem?_getD,List.getElem?_eq_getElem hlt];exact List.getElem_mem _
        have:=b9e ns (-1) hord.out _ hmem
        exact⟨(ns.getD k 0).toNat,by omega,by omega⟩
       obtain⟨sg,hsg⟩:∃sg,gs.getD k []=sg:=⟨_,rfl⟩
       have hsp:=c7z hlt
       obtain⟨pre,post,hp,hpl⟩:=c6j hgk.out hgl.out
       have hl64:=c7a hgk.out hgl.out
       rw [hi]at hsp
       rw [hsg]at hp hl64
       have hk1:=hjd (show ok (ns.getD k 0).toNat (gs.getD k [])=ok m sg from by rw [hi,hsg];rfl)
       obtain⟨sb,so,sc2,e,e2,e3⟩:=CC.out.s.at_ (by omega)
       clear e2 e3
       cases e
       obtain⟨gb,go,gc2,e,e2,e3⟩:=CC.out.g.at_ (by have:=hgk.out;omega)
       clear e2 e3
       cases e
       have E:=Rd.elem (i:=k) CC.out.s hsp (by simp [iv];omega) (by omega)
       have q0:=a9u E (j:=0) rfl
       rw [Nat.add_zero,Nat.mul_one]at q0
       clear E hsp hi hsg
       replace hl64:=hjd hl64
       replace hp:=hjd hp
       replace hpl:=hjd hpl
       replace hm:=hjd hm
       go_upto_region 14 with(first
        | ((with_reducible refine a0e 54 ?_);refine a1n (o:=⟨some 54,_,_,_,_,_⟩) d9w rfl (.tmp 49) (.tmp 51) rfl rfl rfl hlt ?_))
       clear q0
       have kd:=(Kept.refl [] wr).drew
       replace CC:=hjd (CC.out.step hR.out N5.out _ _ kd.of0 (hJ.out _ _ [] (by simp) CC.out.j kd))
       clear kd
       have E:=hjd (Rd.elem (i:=k) CC.out.g hp.out hpl.out (by have:=hgk.out;omega))
       refine Txt.a1i [] (fun _=>True) [[_,_,_,_,_,_,_,_,_,_,_],[_]] (by kernel_rfl) (by kernel_rfl) rfl trivial (Txt.a0g ?_)
       go_wp2_with (first
        | ((with_reducible refine a0e 60 ?_);refine a0p (by kernel_rfl) (a1e rfl (fun w=>by kernel_rfl) rfl (CC.out.b.cell 0)) ?_)
        | ((with_reducible refine a0e 62 ?_);refine a0p (by kernel_rfl) (a1e rfl (fun w=>by kernel_rfl) rfl (CC.out.b.cell 2)) ?_)
        | ((with_reducible refine a0e 64 ?_);refine a1n (o:=⟨some 64,_,_,_,_,_⟩) sigsT5 (by kernel_rfl) (.tmp 62) (.tmp 63) rfl rfl rfl hgk.out ?_)
        | ((with_reducible refine a0e 65 ?_);refine a0x (o:=⟨some 65,_,_,_,_,_⟩) (cs:=bv sg) Q.b3j (by kernel_rfl) (.tmp 64) rfl rfl E.out (by simpa using hl64.out) ?_)
        | (go_at_call 15;(with_reducible refine(co.out m sg _ _ hm.out hl64.out CC.out.m CC.out.j).mono ?_);rintro e v66 ⟨rfl,Jn,kn⟩
           replace CC:=hjd (CC.out.step hR.out N5.out _ _ kn Jn)
           clear Jn kn E))
       refine And.intro rfl (And.intro trivial ?_)
       unfold Txt.a2q
       cases hok:ok m sg with
       | true=>
         replace hok:=hjd hok
         go_wp2_with fail
         refine And.intro rfl (And.intro trivial (Txt.a1d ⟨⟨by kernel_rfl,by simp⟩,?_⟩))
         go_wp2_with fail
         go_roundg (ns.length - (k + 1))
         case measure=>omega
         case rel=>
          refine⟨k + 1,by omega,by omega,by go_num,hjd fun i hi=>?_,CC⟩
          by_cases hik:i=k
          ·rw [hik,hk1.out];exact hok.out
          ·exact ha.out i (by omega)
       | false=>
         replace hok:=hjd hok
         have e60:R=60:=by
          have h2:¬∀k,k < ns.length→ok (ns.getD k 0).toNat (gs.getD k [])=true:=fun h=>by
           have:=h k hlt
           rw [hk1.out,hok.out]at this
           cases this
          rw [←hRes.out];unfold a3n;rw [if_neg h12.out,if_neg (by rw [hord.out];simp),if_neg h2]
         go_wp2_with fail
         refine And.intro rfl (And.intro trivial (Txt.a1d ⟨⟨by kernel_rfl,by simp⟩,?_⟩))
         go_wp2_with fail
         go_ret
         exact⟨by rw [e60];rfl,CC.out.j,CC.out.k⟩
      ·obtain rfl:k=ns.length:=by omega
       have e0:R=0:=by rw [←hRes.out];unfold a3n;rw [if_neg h12.out,if_neg (by rw [hord.out];simp),if_pos ha.out]
       clear hf hk hlt
       go_wp2_with fail
       go_ret
       exact⟨by rw [e0];rfl,CC.out.j,CC.out.k⟩
  ·have b2:((gs.length:Int) !=(q:Int))=true:=by simpa using fun h=>h2 (by omega)
   replace h1:=hjd h1
   replace h2:=hjd h2
   refine Txt.a1i [4,12] (fun u=>Blk u g5 63 #[.slice BA body.length bc,.slice SA ns.length sc,.slice GA gs.length gc]) [[_,_,_,_,_,_,_,_],[_,_,_,_,_,_,_,_],[_,_]] (by kernel_rfl) (by kernel_rfl) rfl B5.out (Txt.a0g ?_)
   go_wp2_with (first
    | (go_at_call 21;(with_reducible refine(cq.out _ J1.out).mono ?_);rintro e v19 ⟨rfl,rfl⟩))
   refine And.intro rfl (And.intro B5.out ?_)
   unfold Txt.a2q
   go_wp2_with (first
    | (go_at_call 21;(with_reducible refine(cq.out _ J1.out).mono ?_);rintro e v27 ⟨rfl,rfl⟩))
   refine And.intro rfl (And.intro B5.out ?_)
   unfold Txt.a2q
   go_wp2_with fail
   refine And.intro rfl (And.intro B5.out (Txt.a1d ⟨⟨by kernel_rfl,?_⟩,?_⟩))
   ·intro j hj o ho hw
    have hj2:j=4∨j=12:=by simpa using hj
    rcases hj2 with rfl | rfl <;> cases ho
    ·exact⟨16,rfl,fun u hu=>a1e rfl (fun w=>by kernel_rfl) rfl (hu.cell 1)⟩
    ·exact⟨24,rfl,fun u hu=>a1e rfl (fun w=>by kernel_rfl) rfl (hu.cell 2)⟩
   go_wp2_with fail
   go_ret
   have e80:R=80:=by rw [←hRes.out];unfold a3n;rw [if_pos (.inr h2.out)]
   exact⟨by rw [e80];rfl,J1.out,K5.out.of0⟩
 ·have b1:((ns.length:Int) !=(q:Int))=true:=by simpa using fun h=>h1 (by omega)
  replace h1:=hjd h1
  refine Txt.a1i [4,12] (fun u=>Blk u g5 63 #[.slice BA body.length bc,.slice SA ns.length sc,.slice GA gs.length gc]) [[_,_,_,_,_,_,_,_],[_,_,_,_,_,_,_,_],[_,_]] (by kernel_rfl) (by kernel_rfl) rfl B5.out (Txt.a0g ?_)
  go_wp2_with (first
   | (go_at_call 21;(with_reducible refine(cq.out _ J1.out).mono ?_);rintro e v19 ⟨rfl,rfl⟩))
  refine And.intro rfl (And.intro B5.out ?_)
  unfold Txt.a2q
  go_wp2_with (first
   | (go_at_call 21;(with_reducible refine(cq.out _ J1.out).mono ?_);rintro e v27 ⟨rfl,rfl⟩))
  refine And.intro rfl (And.intro B5.out ?_)
  unfold Txt.a2q
  go_wp2_with fail
  refine And.intro rfl (And.intro B5.out (Txt.a1d ⟨⟨by kernel_rfl,?_⟩,?_⟩))
  ·intro j hj o ho hw
   have hj2:j=4∨j=12:=by simpa using hj
   rcases hj2 with rfl | rfl <;> cases ho
   ·exact⟨16,rfl,fun u hu=>a1e rfl (fun w=>by kernel_rfl) rfl (hu.cell 1)⟩
   ·exact absurd (hw:Region.wanted _ _=true) (by rw [show Region.wanted _ _=false from by kernel_rfl];simp)
  go_wp2_with fail
  go_ret
  have e80:R=80:=by rw [←hRes.out];unfold a3n;rw [if_pos (.inl h1.out)]
  exact⟨by rw [e80];rfl,J1.out,K5.out.of0⟩
end Go.Proofs.Ytdbngnlpafcogaa
namespace Go.Proofs.Ytdbngnlpafcogaa
open Go.RowKit Go.Mem Go.Txt
end Go.Proofs.Ytdbngnlpafcogaa
namespace Go.Proofs.Ytdbngnlpafcogaa
open Go.RowKit Go.Mem Go.Txt
end Go.Proofs.Ytdbngnlpafcogaa
namespace Go.Proofs.Ytdbngnlpafcogaa
open Go.RowKit Go.Mem Go.Txt
set_option maxHeartbeats 3200000 in
theorem key_in{w:World}{r b:Nat}{kv:Value}{keys:List (List UInt8)}{D:DU}(h:Rg w r kv keys b D)(i:Nat)(hi:i < keys.length) :
 Calls Try.prog 22 #[.pointer (some ⟨r,0,none⟩),.int .i64 (i:Int)] w fun e w'=>e= .returned (ab (keys.getD i []))∧Kept [] w w':=by
 obtain⟨kb,ko,kc,e0,_,_⟩:=h.rows.at_ (by omega)
 subst e0
 have H:=hjd h
 have h0:¬((i:Int) < 0):=by omega
 have h1:¬((keys.length:Int)≤(i:Int)):=by omega
 have hkl:=hjd (h.len (keys.getD i []) (by rw [getD_eq hi];exact List.getElem_mem _))
 obtain⟨pre,post,hpp,hpl⟩:=a5t hi h.len
 have hel:=hjd (fun u (hu:Rd u 32 (.slice (some ⟨kb,ko,none⟩) keys.length kc) keys.length (keys.flatMap bv))=>Rd.elem (i:=i) hu hpp hpl (by omega))
 generalize hky:keys.getD i []=key at *
 clear h hpp hpl hky
 go_enter Try.func22,Try.ntmps22
 go_wp2_with (first
  | ((with_reducible refine a0e 4 ?_);(refine a0h (o:=⟨some 4,_,_,_,_,_⟩) rfl rfl a6q ?_);intro g4 w4 m4
     have B4:=hjd m4.blk
     have KK:=hjd m4.kept
     have L4:=hjd m4.le
     replace H:=hjd (H.out.kept m4.kept)
     have q0:w4.cell? ⟨r,0,none⟩=some (.slice (some ⟨kb,ko,none⟩) keys.length kc):=by rw [H.out.blk.cell];rfl
     clear m4)
  | (go_at_call 19;(with_reducible refine(a5j H.out).mono ?_);rintro e v ⟨rfl,rfl⟩)
  | ((with_reducible refine a0e 19 ?_);refine a1n (o:=⟨some 19,_,_,_,_,_⟩) a6l rfl (.tmp 17) (.tmp 18) rfl rfl rfl hi ?_)
  | ((with_reducible refine a0e 20 ?_);refine a0x (o:=⟨some 20,_,_,_,_,_⟩) (cs:=bv key) a2h.row rfl (.tmp 19) rfl rfl (hel.out _ H.out.rows) (by simpa using hkl.out) ?_)
  | ((refine a0c (cs:=(bv key).toArray) (o:=⟨none,Op.store 26 (.tmp 4) (.tmp 20),_,_,_,_⟩) a2h.row rfl (.tmp 4) (.tmp 20) rfl rfl rfl B4.out (by rfl) (by simpa using hkl.out) (a3q _) ?_);intro wz bz kz))
 exact a1j a2h.row rfl rfl bz (by simpa using hkl.out) rfl ⟨rfl,KK.out.a0q kz L4.out⟩
end Go.Proofs.Ytdbngnlpafcogaa
namespace Go.Proofs.Ytdbngnlpafcogaa
open Go.RowKit Go.Mem Go.Txt
set_option maxHeartbeats 3200000 in
theorem d9p{w:World}{r b:Nat}{kv:Value}{keys:List (List UInt8)}{D:DU}(h:Rg w r kv keys b D)(i:Int)(hi:i < 0∨(keys.length:Int)≤i)(tv mv:Value)(SG:List UInt8):Calls Try.prog 15 #[.pointer (some ⟨r,0,none⟩),.int .i64 i,tv,mv,ab SG] w fun e w'=>e= .returned (.bool false)∧Kept [] w w':=by
 have H:=hjd h
 clear h
 by_cases h:i < 0
 ·go_enter Try.func15,Try.ntmps15
  go_wp2_with (first
   | ((with_reducible refine a0e 9 ?_);(refine a0o (o:=⟨some 9,_,_,_,_,_⟩) (v:=ab SG) rfl (.tmp 4) rfl rfl ?_);intro g9 w9 m9;have KK:=hjd m9.kept;clear m9))
  go_ret
  exact⟨rfl,KK.out⟩
 ·have h2:(keys.length:Int)≤i:=by omega
  clear hi
  go_enter Try.func15,Try.ntmps15
  go_wp2_with (first
   | ((with_reducible refine a0e 9 ?_);(refine a0o (o:=⟨some 9,_,_,_,_,_⟩) (v:=ab SG) rfl (.tmp 4) rfl rfl ?_);intro g9 w9 m9;have KK:=hjd m9.kept;replace H:=hjd (H.out.kept m9.kept);clear m9)
   | (go_at_call 19;(with_reducible refine(a5j H.out).mono ?_);rintro e v ⟨rfl,rfl⟩))
  go_ret
  exact⟨rfl,KK.out⟩
noncomputable def okR (keys:List (List UInt8)) (tag:UInt8) (body:List UInt8) (i:Nat) (sig:List UInt8):Bool:=decide (i < keys.length) && okV (keys.getD i []) sig (a4i tag body)
def RgJ(r b:Nat)(kv:Value)(keys:List (List UInt8))(u:World):Prop:=∃D,Rg u r kv keys b D
theorem Rg.blt{w:World}{r b:Nat}{kv:Value}{keys:List (List UInt8)}{D:DU}(h:Rg w r kv keys b D):b < w.heap.size:=by
 obtain⟨n,hn⟩:=h.map
 exact hn.lt
theorem RgJ.far{w u u':World}{r b:Nat}{kv:Value}{keys:List (List UInt8)}{X:List Nat}(h0:RgJ r b kv keys w)(hX:∀k∈X,w.heap.size≤k)(h:RgJ r b kv keys u)(hk:Kept X u u'):RgJ r b kv keys u':=by
 obtain⟨D0,h0⟩:=h0
 obtain⟨D,h⟩:=h
 refine⟨D,h.blk.kept hk (fun hm=>by have:=hX _ hm;have:=h0.blk.lt;omega),h.rows.kept hk (Rd.old h0.rows (by omega) hX),h.len,h.few,?_,h.seen,h.isMap⟩
 obtain⟨n,hn⟩:=h.map
 exact⟨n,hn.kept hk (fun hm=>by have:=hX _ hm;have:=h0.blt;omega)⟩
theorem RgJ.rd{u u':World}{r b s n:Nat}{kv v:Value}{keys:List (List UInt8)}{xs:List Value}(hs:0 < s)(h:RgJ r b kv keys u)(hk:Kept [b] u u')(hr:Rd u s v n xs):Rd u' s v n xs:=by
 obtain⟨D,h⟩:=h
 obtain⟨m,hm⟩:=h.map
 refine hr.kept hk fun hn k hk2 hm2=>?_
 refine Rd.c5l hr hm ?_ hn k hk2 (List.mem_singleton.1 hm2)
 rw [hr.len]
 exact Nat.mul_pos hn hs
theorem openR{u:World}{r b:Nat}{kv:Value}{keys:List (List UInt8)}(tag:UInt8)(body:List UInt8)(hbl:body.length≤140737488351900)(i:Nat)(sig:List UInt8)(hs:sig.length=64)(v:Value)(hv:a2a body v u)(h:RgJ r b kv keys u) :
 Calls Try.prog 15 #[.pointer (some ⟨r,0,none⟩),.int .i64 (i:Int),.int .u8 (tag.toNat:Int),v,ab sig] u fun e w'=>e= .returned (.bool (okR keys tag body i sig))∧RgJ r b kv keys w'∧Kept [b] u w':=by
 obtain⟨D,h⟩:=h
 by_cases hi:i < keys.length
 ·refine(d8s tag body h hi hs v hv hbl).mono ?_
  rintro e w' ⟨rfl,D',h',k⟩
  exact⟨by unfold okR;rw [decide_eq_true hi];rfl,⟨D',h'⟩,k⟩
 ·refine(d9p h i (.inr (by omega)) _ v sig).mono ?_
  rintro e w' ⟨rfl,k⟩
  exact⟨by unfold okR;rw [decide_eq_false hi];rfl,⟨D,h.kept k⟩,Kept.of0 k⟩
def b7y(n:Nat):Nat:=2 * (n / 3) + 1
theorem quoR{u:World}{r b:Nat}{kv:Value}{keys:List (List UInt8)}(h:RgJ r b kv keys u):Calls Try.prog 21 #[.pointer (some ⟨r,0,none⟩)] u fun e w'=>e= .returned (.int .i64 (b7y keys.length:Int))∧w'=u:=by
 obtain⟨D,h⟩:=h
 refine(c8q h).mono ?_
 rintro e w' ⟨rfl,rfl⟩
 exact⟨by unfold b7y;first | rfl | (congr 2;omega),rfl⟩
theorem sizeR{u:World}{r b:Nat}{kv:Value}{keys:List (List UInt8)}(h:RgJ r b kv keys u):Calls Try.prog 19 #[.pointer (some ⟨r,0,none⟩)] u fun e w'=>e= .returned (.int .i64 (keys.length:Int))∧w'=u:=by
 obtain⟨D,h⟩:=h
 exact a5j h
theorem a7h{w:World}{r b:Nat}{kv:Value}{keys:List (List UInt8)}(h:RgJ r b kv keys w)(tag:UInt8){ns:List Int}{gs:List (List UInt8)}{body:List UInt8}(bw sv gv:Value)(hb:a2a body bw w)(hbl:body.length≤140737488351900)(hs:Rd w 1 sv ns.length (iv ns))(hg:Rd w 64 gv gs.length (gs.flatMap bv))(hgl:∀g∈gs,g.length=64)(hlen:ns.length≤140737488351900)(hlen2:gs.length≤140737488351900) :
 Calls Try.prog 34 #[.pointer (some ⟨r,0,none⟩),.int .u8 (tag.toNat:Int),d2w bw sv gv] w fun e w'=>e= .returned (.int .i64 (a3n (b7y keys.length) keys.length (okR keys tag body) ns gs))∧RgJ r b kv keys w'∧Kept [b] w w':=by
 obtain⟨D,h0⟩:=id h
 exact c8v bw sv gv w hb hs hg hgl h0.few h hlen hlen2 (by unfold b7y;have:=h0.few;omega) (by simpa using h0.blt) (fun u u' X hX hj hk=>RgJ.far h hX hj hk) (fun u u' s v n xs hs hj hk hr=>RgJ.rd hs hj hk hr)
  (fun i sig u v _ hs hv hj=>openR tag body hbl i sig hs v hv hj) (fun u hj=>quoR hj) (fun u hj=>sizeR hj)
noncomputable def a6p (keys:List (List UInt8)) (tag:UInt8) (body:List UInt8) (sh:List Shr):Nat→Option Nat:=a3p (okR keys tag body) sh sh.length
theorem c2a{w:World}{r b:Nat}{kv:Value}{keys:List (List UInt8)}(h:RgJ r b kv keys w)(tag:UInt8){sh:List Shr}{body:List UInt8}(bw:Value){SA:Option Addr}{sc:Nat}
 (hb:a2a body bw w) (hbl:body.length≤140737488351900) (hs:Rd w 65 (.slice SA sh.length sc) sh.length (sh.flatMap shC)) (hsl:∀p∈sh,p.2.length=64) (hm:sh.length≤1000) :
 Calls Try.prog 32 #[.pointer (some ⟨r,0,none⟩),.int .u8 (tag.toNat:Int),bw,.slice SA sh.length sc] w fun e w'=>RgJ r b kv keys w'∧Kept [b] w w'∧
  ((c2e (a6p keys tag body sh) < b7y keys.length∧e= .returned (.tuple #[.agg #[.slice none 0 0,.slice none 0 0,.slice none 0 0],.int .i64 80]))∨
   (b7y keys.length≤c2e (a6p keys tag body sh)∧∃b2 s2 g2,e= .returned (.tuple #[.agg #[b2,s2,g2],.int .i64 0])∧a2a body b2 w'∧
     Rd w' 1 s2 (a3m (a6p keys tag body sh) (b7y keys.length) 7).length (iv ((a3m (a6p keys tag body sh) (b7y keys.length) 7).map fun(k:Nat)=>(k:Int)))∧Rd w' 64 g2 (a3m (a6p keys tag body sh) (b7y keys.length) 7).length ((a3m (a6p keys tag body sh) (b7y keys.length) 7).flatMap fun k=>bv (b2k sh (a6p keys tag body sh) k)))):=by
 obtain⟨gs,os,hA⟩:∃gs os,0 < sh.length→SA=some ⟨gs,os,none⟩:=by
  by_cases h:0 < sh.length
  ·obtain⟨gs,os,c,e,_⟩:=hs.at_ h
   cases e
   exact⟨gs,os,fun _=>rfl⟩
  ·exact⟨0,0,fun h2=>absurd h2 h⟩
 obtain⟨D,h0⟩:=id h
 refine(c9h (S:=[b]) (J:=RgJ r b kv keys) (q:=b7y keys.length) (tag:=tag) (ok:=okR keys tag body) (rp:=some ⟨r,0,none⟩) bw w hb hbl hs hA hsl hm h (by simpa using h0.blt) (fun u u' X hX hj hk=>RgJ.far h hX hj hk) (fun u u' s v n xs hs hj hk hr=>RgJ.rd hs hj hk hr)
  (fun i sig u v _ hs hv hj=>openR tag body hbl i sig hs v hv hj) (fun u hj=>quoR hj)).mono ?_
 rintro e w' ⟨hj,k,⟨hc,rfl⟩ | ⟨_,hc,hr⟩⟩
 ·exact⟨hj,k,.inl ⟨hc.resolve_left (by simp),rfl⟩⟩
 ·exact⟨hj,k,.inr ⟨hc,hr⟩⟩
end Go.Proofs.Ytdbngnlpafcogaa
namespace Go.Proofs.Ytdbngnlpafcogaa
open Go.RowKit Go.Mem Go.Txt
theorem c3q{n:Int}{sg:List UInt8}(h:sg.length=64):Try.prog.built 60 [(0,.int .i64 n),(1,ab sg)]=some (shC (n,sg)).toArray:=by
 rw [e1x h]
 kernel_rfl
theorem c1s{sg:List UInt8}(h:sg.length=64):Try.prog.built 60 [(1,ab sg)]=some (shC (0,sg)).toArray:=by
 rw [e1x h]
 kernel_rfl
theorem a3s{n:Int}{sg:List UInt8}(h:sg.length=64):(shC (n,sg)).length=65:=by simp [shC,h]
theorem lit97(u:World)(fr:Nat × Nat):a2a [97] (.slice (some ⟨u.heap.size,0,none⟩) 1 1) (u.alloc (.cells #[.int .u8 97] 5 fr)):=lit_b rfl rfl
theorem lit97b(u:World)(o:Obj)(fr:Nat × Nat):a2a [97] (.slice (some ⟨u.heap.size + 1,0,none⟩) 1 1) ((u.alloc o).alloc (.cells #[.int .u8 97] 5 fr)):=lit_b (by simp) rfl
set_option maxHeartbeats 3200000 in
theorem c0q{sd SG:List UInt8}{keys:List (List UInt8)}(hsd:sd.length=32)(hSG:SG.length=64)
 (c0:∀u,Calls Try.prog 31 #[.int .i64 0] u fun e w'=>∃r b kv sv,e= .returned (.tuple #[.pointer (some ⟨r,0,none⟩),sv])∧RgJ r b kv keys w'∧Rd w' 32 sv 1 (bv sd)∧Kept [] u w'∧u.heap.size≤b)
 (cs:∀u v,a2a [97] v u→Calls Try.prog 17 #[ab sd,.int .u8 5,v] u fun e w'=>e= .returned (ab SG)∧Kept [] u w')
 (cm:∀r b kv u bw A c,RgJ r b kv keys u→a2a [97] bw u→Rd u 65 (.slice A 1 c) 1 (shC (0,SG))→Calls Try.prog 32 #[.pointer (some ⟨r,0,none⟩),.int .u8 5,bw,.slice A 1 c] u fun e w'=>∃b2 s2 g2,e= .returned (.tuple #[.agg #[b2,s2,g2],.int .i64 0])∧RgJ r b kv keys w'∧Kept [b] u w'∧a2a [97] b2 w'∧Rd w' 1 s2 1 [.int .i64 0]∧Rd w' 64 g2 1 (bv SG))
 (c5:∀r b kv u bw sv gv,RgJ r b kv keys u→a2a [97] bw u→Rd u 1 sv 1 [.int .i64 0]→Rd u 64 gv 1 (bv SG)→Calls Try.prog 34 #[.pointer (some ⟨r,0,none⟩),.int .u8 5,.agg #[bw,sv,gv]] u fun e w'=>e= .returned (.int .i64 0)∧RgJ r b kv keys w'∧Kept [b] u w')
 (c4:∀r b kv u bw sv gv,RgJ r b kv keys u→a2a [97] bw u→Rd u 1 sv 1 [.int .i64 0]→Rd u 64 gv 1 (bv SG)→Calls Try.prog 34 #[.pointer (some ⟨r,0,none⟩),.int .u8 4,.agg #[bw,sv,gv]] u fun e w'=>e= .returned (.int .i64 60)∧RgJ r b kv keys w'∧Kept [b] u w')
 (cz:∀r b kv u,RgJ r b kv keys u→Calls Try.prog 34 #[.pointer (some ⟨r,0,none⟩),.int .u8 5,.agg #[.slice none 0 0,.slice none 0 0,.slice none 0 0]] u fun e w'=>e= .returned (.int .i64 80)∧RgJ r b kv keys w'∧Kept [b] u w') (w:World) :
 Calls Try.prog 30 #[] w fun e w'=>e= .returned (.bool true)∧Kept [] w w':=by
 have sb:=hjd (c1s hSG)
 replace hsd:=hjd hsd
 replace hSG:=hjd hSG
 replace c0:=hjd c0
 replace cs:=hjd cs
 replace cm:=hjd cm
 replace c5:=hjd c5
 replace c4:=hjd c4
 replace cz:=hjd cz
 go_enter Try.func30,Try.ntmps30
 go_wp2_with (first
  | (go_at_call 31;(with_reducible refine(c0.out _).mono ?_);rintro e u6 ⟨r,b,kv,sv,rfl,J,S,K,L⟩
     replace J:=hjd J
     replace K:=hjd K
     have hB:∀k∈[b],w.heap.size≤k:=by simpa using L
     replace hB:=hjd hB
     obtain⟨sb0,so,sc,rfl,e2,e3⟩:=S.at_ (by decide)
     clear e2 e3 L
     replace S:=hjd S)
  | ((with_reducible refine a0e 14 ?_);refine a1n (i:=0) (n:=1) (o:=⟨some 14,_,_,_,_,_⟩) a6l rfl (.tmp 13) (.const (.int .i64 0)) rfl rfl rfl (by decide) ?_)
  | ((with_reducible refine a0e 15 ?_);refine a0x (o:=⟨some 15,_,_,_,_,_⟩) (cs:=bv sd) a2h.row rfl (.tmp 14) rfl rfl (Rd.elem (i:=0) (n:=1) (pre:=[]) (post:=[]) (S.out.a0k ((Kept.refl [] _).alloc _)) (by simp) (by simp) (by decide)) (by simpa using hsd.out) ?_)
  | (go_at_call 17;(with_reducible refine(cs.out _ _ (lit97b u6 _ _)).mono ?_);rintro e u18 ⟨rfl,kk⟩
     have k0:=(((Kept.refl [] u6).alloc _).alloc _).a0f kk
     have R11:=hjd (a2a.a0k (a2a.a0k (lit97 u6 _) ((Kept.refl [] _).alloc _)) kk)
     replace K:=hjd (K.out.a0f k0)
     replace J:=hjd (RgJ.far J.out (by simp) J.out k0)
     clear kk k0 S)
  | ((with_reducible refine a0e 19 ?_);refine a3t (v:=ab SG) (cs:=(shC (0,SG)).toArray) rfl 1 (.tmp 18) rfl rfl sb.out ?_)
  | ((with_reducible refine a0e 20 ?_);(refine a1r (o:=⟨some 20,_,_,_,_,_⟩) (v0:=.agg (shC (0,SG)).toArray) (cells:=(shC (0,SG)).toArray) rfl a6u rfl rfl (by decide) rfl (by rw [List.size_toArray];exact a3s hSG.out) ?_);intro g20 w20 m20
     have R20:=hjd (b1f m20.blk (a3s hSG.out))
     replace K:=hjd (K.out.a0f m20.kept)
     replace J:=hjd (RgJ.far J.out (by simp) J.out m20.kept)
     replace R11:=hjd (a2a.a0k R11.out m20.kept)
     clear m20)
  | (go_at_call 32;(with_reducible refine(cm.out _ _ _ _ _ _ _ J.out R11.out R20.out).mono ?_);rintro e u21 ⟨b2,s2,g2,rfl,J2,k2,hb,hs,hg⟩
     replace K:=hjd (K.out.fresh k2 hB.out)
     replace J:=hjd J2
     obtain⟨BA,bc,rfl,e1⟩:=id hb
     obtain⟨SA,sc2,rfl,e2⟩:=id hs
     obtain⟨GA,gc,rfl,e3⟩:=id hg
     clear e1 e2 e3 J2 k2 R11 R20
     have HB:=hjd (show a2a [97] (.slice BA 1 bc) u21 from hb)
     have HS:=hjd hs
     have HG:=hjd hg
     clear hb hs hg)
  | ((with_reducible refine a0e 3 ?_);(refine a0h (o:=⟨some 3,_,_,_,_,_⟩) rfl rfl a4m ?_);intro g3 w3 m3
     refine a0c (cs:=#[.slice BA 1 bc,.slice SA 1 sc2,.slice GA 1 gc]) (o:=⟨none,Op.store 63 (.tmp 3) (.tmp 22),_,_,_,_⟩) a4s rfl (.tmp 3) (.tmp 22) rfl rfl rfl m3.blk rfl rfl (a3w _ _ _ _ _ _ _ _ _) ?_
     intro wb3 b3 k3
     have K3:=m3.kept.a0q k3 m3.le
     have N3:=hjd (show g3∉[b]from fun h=>by
      obtain⟨D,hD⟩:=J.out
      have h1:=hD.blt
      have h2:=m3.le
      rw [List.mem_singleton.1 h]at h2
      omega)
     have B3:=hjd b3
     replace K:=hjd (K.out.a0f K3)
     replace J:=hjd (RgJ.far J.out (by simp) J.out K3)
     replace HB:=hjd (a2a.a0k HB.out K3)
     replace HS:=hjd (HS.out.a0k K3)
     replace HG:=hjd (HG.out.a0k K3)
     clear m3 b3 k3 K3)
  | ((with_reducible refine a0e 28 ?_);refine a0p (by kernel_rfl) (a1e rfl (fun w=>by kernel_rfl) rfl (B3.out.cell 1)) ?_)
  | ((with_reducible refine a0e 34 ?_);refine a0d (cs:=#[.slice BA 1 bc,.slice SA 1 sc2,.slice GA 1 gc]) (o:=⟨some 34,_,_,_,_,_⟩) a4s (by kernel_rfl) (.tmp 3) rfl rfl B3.out rfl ?_)
  | ((with_reducible refine a0e 40 ?_);refine a0d (cs:=#[.slice BA 1 bc,.slice SA 1 sc2,.slice GA 1 gc]) (o:=⟨some 40,_,_,_,_,_⟩) a4s (by kernel_rfl) (.tmp 3) rfl rfl B3.out rfl ?_)
  | (go_at_call 34;(with_reducible refine(c5.out _ _ _ _ _ _ _ J.out HB.out HS.out HG.out).mono ?_);rintro e u35 ⟨rfl,J2,k2⟩
     replace HB:=hjd (show a2a [97] (.slice BA 1 bc) _ from RgJ.rd (by decide) J.out k2 HB.out)
     replace HS:=hjd (RgJ.rd (by decide) J.out k2 HS.out)
     replace HG:=hjd (RgJ.rd (by decide) J.out k2 HG.out)
     replace K:=hjd (K.out.fresh k2 hB.out)
     replace B3:=hjd (B3.out.kept k2 N3.out)
     replace J:=hjd J2
     clear J2 k2)
  | (go_at_call 34;(with_reducible refine(c4.out _ _ _ _ _ _ _ J.out HB.out HS.out HG.out).mono ?_);rintro e u41 ⟨rfl,J2,k2⟩
     replace K:=hjd (K.out.fresh k2 hB.out)
     replace J:=hjd J2
     clear J2 k2 HB HS HG)
  | ((with_reducible refine a0e 46 ?_);refine a1h (cs:=#[.slice none 0 0,.slice none 0 0,.slice none 0 0]) (by kernel_rfl) rfl (by kernel_rfl) ?_)
  | (go_at_call 34;(with_reducible refine(cz.out _ _ _ _ J.out).mono ?_);rintro e u47 ⟨rfl,J2,k2⟩
     replace K:=hjd (K.out.fresh k2 hB.out)
     clear J2 k2))
 go_ret
 exact⟨rfl,K.out⟩
theorem b4o(w:World):Calls Try.prog 30 #[] w fun e w'=>e= .returned (.bool true)∧Kept [] w w':=by
 have hSG:(a7o (a2t 0) (a4i 5 [97])).length=64:=b9t _ _
 have hk:a2f 1= [b3p 0]:=rfl
 have o5:okR (a2f 1) 5 [97] 0 (a7o (a2t 0) (a4i 5 [97]))=true:=by
  unfold okR
  rw [b0o (by decide)]
  have:=c3f (a2t 0) (a4i 5 [97])
  simpa [a2k,b3p]using this
 have o4:okR (a2f 1) 4 [97] 0 (a7o (a2t 0) (a4i 5 [97]))=false:=by
  unfold okR
  rw [b0o (by decide)]
  have:=kr_no kr8_0
  simpa [a2k,b3p]using this
 have hf:a6p (a2f 1) 5 [97] [(0,a7o (a2t 0) (a4i 5 [97]))]=fun k=>if k=0 then some 0 else none:=by
  have e:a6p (a2f 1) 5 [97] [(0,a7o (a2t 0) (a4i 5 [97]))]=b6i (okR (a2f 1) 5 [97]) (fun _=>none) 0 (0,a7o (a2t 0) (a4i 5 [97])):=rfl
  rw [e]
  unfold b6i
  rw [if_pos ⟨by simp,by simp,rfl,o5⟩]
  rfl
 have hc:c2e (fun k=>if k=0 then some 0 else none)=1:=by decide
 have hp:a3m (fun k=>if k=0 then some 0 else none) 1 7= [0]:=by decide
 have hl:b7y (a2f 1).length=1:=by rw [a2k];rfl
 generalize hSe:a7o (a2t 0) (a4i 5 [97])=SG at *
 refine c0q (keys:=a2f 1) (a2y 0) hSG (fun u=>?_) (fun u v hv=>?_) (fun r b kv u bw A c J hb hs=>?_) (fun r b kv u bw sv gv J hb hs hg=>?_) (fun r b kv u bw sv gv J hb hs hg=>?_) (fun r b kv u J=>?_) w
 ·refine(d5z 0 (by decide) u).mono ?_
  rintro e w' ⟨r,b,kv,sv,rfl,h1,h2,h3,h4⟩
  exact⟨r,b,kv,sv,rfl,⟨_,h1⟩,by simpa [a4q]using h2,h3,h4⟩
 ·have:=b8c (seed:=a2t 0) 5 (a2y 0) v [97] u hv (by simp)
  rw [hSe]at this
  exact this
 ·have:=c2a J 5 (sh:=[(0,SG)]) (body:=[97]) bw (SA:=A) (sc:=c) hb (by simp) (by simpa using hs) (by simpa using hSG) (by simp)
  rw [hf,hl,hc,hp]at this
  refine this.mono ?_
  rintro e w' ⟨hj,k,⟨h,_⟩ | ⟨_,b2,s2,g2,rfl,h1,h2,h3⟩⟩
  ·omega
  ·exact⟨b2,s2,g2,rfl,hj,k,h1,by simpa using h2,by simpa [b2k]using h3⟩
 ·have:=a7h J 5 (ns:=[0]) (gs:=[SG]) (body:=[97]) bw sv gv hb (by simp) (by simpa using hs) (by simpa using hg) (by simpa using hSG) (by simp) (by simp)
  have e:a3n (b7y (a2f 1).length) (a2f 1).length (okR (a2f 1) 5 [97]) [0] [SG]=0:=by
   rw [hl,a2k]
   unfold a3n
   rw [if_neg (by simp),if_neg (by decide),if_pos]
   intro k hk
   obtain rfl:k=0:=by simpa using hk
   exact o5
  rw [e]at this
  exact this
 ·have:=a7h J 4 (ns:=[0]) (gs:=[SG]) (body:=[97]) bw sv gv hb (by simp) (by simpa using hs) (by simpa using hg) (by simpa using hSG) (by simp) (by simp)
  have e:a3n (b7y (a2f 1).length) (a2f 1).length (okR (a2f 1) 4 [97]) [0] [SG]=60:=by
   rw [hl,a2k]
   unfold a3n
   rw [if_neg (by simp),if_neg (by decide),if_neg]
   intro h
   have:=h 0 (by simp)
   rw [show okR (a2f 1) 4 [97] (([0]:List Int).getD 0 0).toNat ([SG].getD 0 [])=false from o4]at this
   cases this
  rw [e]at this
  exact this
 ·have:=a7h J 5 (ns:=[]) (gs:=[]) (body:=[]) (.slice none 0 0) (.slice none 0 0) (.slice none 0 0) (Rd.nil _ _) (by simp) (Rd.nil _ _) (Rd.nil _ _) (by simp) (by simp) (by simp)
  have e:a3n (b7y (a2f 1).length) (a2f 1).length (okR (a2f 1) 5 []) [] []=80:=by
   rw [hl]
   unfold a3n
   rw [if_pos (by simp)]
  rw [e]at this
  exact this
end Go.Proofs.Ytdbngnlpafcogaa
namespace Go.Proofs.Ytdbngnlpafcogaa
open Go.RowKit Go.Mem Go.Txt
def b8v(l:List UInt8)(j:Nat):Prop:=l.length≤j∨0 < (l.getD j 0).toNat % 3
instance (l:List UInt8) (j:Nat):Decidable (b8v l j):=by unfold b8v;infer_instance
theorem e0g:RowT Try.prog 60 65:=⟨⟨_,Try.underlying60,rfl⟩,by kernel_rfl⟩
theorem b2d(p:Shr):∀u∈shC p,u.oneCell'=true:=by
 intro u hu
 simp only [shC,List.mem_cons]at hu
 rcases hu with rfl | hu
 ·rfl
 ·exact a4r _ u hu
def a5q(sh:List Shr)(l:List UInt8):Nat→List Shr
 | 0=>[]
 | j + 1=>if b8v l j then a5q sh l j ++ [sh.getD j (0,[])]else a5q sh l j
theorem b9n(sh:List Shr)(l:List UInt8):∀j,(a5q sh l j).length≤j
 | 0=>Nat.le_refl _
 | j + 1=>by
   have:=b9n sh l j
   unfold a5q
   split
   ·rw [List.length_append];simp;omega
   ·omega
set_option maxHeartbeats 3200000 in
theorem d5b{sh:List Shr}{l:List UInt8}(av lv:Value)(w:World)(ha:Rd w 65 av sh.length (sh.flatMap shC))(hb:Rd w 1 lv l.length (bv l))(hsl:∀p∈sh,p.2.length=64)(hm:sh.length≤1000) :
 Calls Try.prog 33 #[av,lv] w fun e w'=>∃A c,e= .returned (.slice A (a5q sh l sh.length).length c)∧Rd w' 65 (.slice A (a5q sh l sh.length).length c) (a5q sh l sh.length).length ((a5q sh l sh.length).flatMap shC)∧Kept [] w w':=by
 obtain⟨AA,ac,rfl,e1⟩:=id ha
 obtain⟨LA,lc,rfl,e2⟩:=id hb
 clear e1 e2
 replace ha:=hjd ha
 replace hb:=hjd hb
 replace hsl:=hjd hsl
 go_enter Try.func33,Try.ntmps33
 go_wp2_with fail
 go_loopg [5,9] sh.length (fun f x5 x9 wk=>∃j:Nat,j≤sh.length∧f + j=sh.length∧x9= .int .i64 (j:Int)∧Hid (Ow wk 60 65 x5 (a5q sh l j).length ((a5q sh l j).flatMap shC)∧∀k,x5.ownBlock=some k→w.heap.size≤k)∧Hid (Kept [] w wk))
 case atStart=>exact⟨0,by omega,by omega,rfl,hjd ⟨Ow.nil _ _ _,fun k h=>by cases h⟩,hjd (Kept.refl _ _)⟩
 case round=>
  obtain⟨j,hj,hf,rfl,hO,K⟩:=hrel
  by_cases hlt:j < sh.length
  ·have hst:a5q sh l (j + 1)=if b8v l j then a5q sh l j ++ [sh.getD j (0,[])]else a5q sh l j:=rfl
   have hlen:=b9n sh l j
   have hl64:=hjd (d9v hlt hsl.out)
   have hp:=hjd (b8s hlt)
   have hpl:=hjd (d0q hsl.out j (by omega))
   obtain⟨⟨n,sg⟩,hpe⟩:∃p,sh.getD j (0,[])=p:=⟨_,rfl⟩
   rw [hpe]at hst hp hl64
   replace hst:=hjd hst
   clear hpe
   generalize a5q sh l j=xs at *
   have O:=hjd hO.out.1
   have OF:=hjd hO.out.2
   clear hO
   have hO1:=O.out
   obtain⟨XA,xc,rfl,e1⟩:=hO1.shape
   clear hO1 e1
   obtain⟨ab0,ao,ac2,e,e2,e3⟩:=(ha.out.a0k K.out).at_ (by omega)
   cases e
   clear e2 e3
   have E:=hjd (Rd.elem (i:=j) (ha.out.a0k K.out) hp.out hpl.out (by omega))
   by_cases hA:l.length≤j
   ·have hy:=hjd (hst.out.trans (if_pos (.inl hA)))
    have hAi:(l.length:Int)≤(j:Int):=by omega
    go_wp2_with (first
     | ((with_reducible refine a0e 27 ?_);refine a1n (o:=⟨some 27,_,_,_,_,_⟩) a6u rfl (.tmp 25) (.tmp 26) rfl rfl rfl hlt ?_)
     | ((with_reducible refine a0e 28 ?_);refine a0x (o:=⟨some 28,_,_,_,_,_⟩) (cs:=shC (n,sg)) e0g rfl (.tmp 27) rfl rfl E.out (a3s hl64.out) ?_)
     | ((with_reducible refine a0e 29 ?_);(refine a1r (o:=⟨some 29,_,_,_,_,_⟩) (v0:=.agg (shC (n,sg)).toArray) (cells:=(shC (n,sg)).toArray) rfl a6u rfl rfl (by decide) rfl (by rw [List.size_toArray];exact a3s hl64.out) ?_);intro g29 w29 m29
        have R29:=hjd (b1f m29.blk (a3s hl64.out))
        replace K:=hjd (K.out.a0f m29.kept)
        replace O:=hjd (O.out.a0k m29.kept)
        clear m29)
     | (at_builtin;refine a3g a6u rfl (.tmp 24) (.tmp 29) rfl rfl (xs:=xs.flatMap shC) (n:=xs.length) (m:=1) (news:=shC (n,sg)) O.out rfl R29.out (b2d _) (by omega) (by omega) ?_
        intro x30 w30 o30 k30 b30
        have O2:=hjd (show Ow w30 60 65 x30 (xs ++ [(n,sg)]).length ((xs ++ [(n,sg)]).flatMap shC)from by simpa using o30)
        have K2:=hjd (K.out.fresh k30 (fun k hk=>OF.out k (Option.mem_toList.1 hk)))
        have F2:=hjd (show∀k,x30.ownBlock=some k→w.heap.size≤k from fun k hk=>by
         rcases b30 with b | b
         ·exact OF.out k (b▸hk)
         ·rw [b]at hk
          cases hk
          exact K.out.size)
        clear o30 k30 b30 R29))
    go_roundg (sh.length - (j + 1))
    case measure=>omega
    case rel=>exact⟨j + 1,by omega,by omega,by go_num,hjd (by rw [hy.out];exact⟨O2.out,F2.out⟩),K2⟩
   ·obtain⟨y,hy⟩:∃y,l.getD j 0=y:=⟨_,rfl⟩
    have hPk:b8v l j↔0 < y.toNat % 3:=by
     unfold b8v
     rw [hy]
     exact⟨fun h=>h.resolve_left hA,.inr⟩
    obtain⟨lb,lo,lc2,e,e2,e3⟩:=(hb.out.a0k K.out).at_ (by omega)
    cases e
    have q0:=e3 j (.int .u8 (y.toNat:Int)) (by rw [←hy];simp [bv,a2m,List.getD_eq_getElem?_getD,List.getElem?_eq_getElem (show j < l.length by omega)])
    clear e2 e3 hy
    have hjl:=hjd (show j < l.length by omega)
    have hAi:¬(l.length:Int)≤(j:Int):=by omega
    by_cases hB:0 < y.toNat % 3
    ·have hy:=hjd (hst.out.trans (if_pos (hPk.2 hB)))
     have hBi:(0:Int) < (y.toNat:Int) % 3:=by omega
     have hBt:(0:Int) < (y.toNat:Int).tmod 3:=by rw [Int.tmod_eq_emod_of_nonneg (by omega)];exact hBi
     replace hPk:=hjd hPk
     go_wp2_with (first
      | ((with_reducible refine a0e 19 ?_);refine a1n (o:=⟨some 19,_,_,_,_,_⟩) a2c (by kernel_rfl) (.tmp 17) (.tmp 18) rfl rfl rfl hjl.out ?_)
      | ((with_reducible refine a0e 27 ?_);refine a1n (o:=⟨some 27,_,_,_,_,_⟩) a6u rfl (.tmp 25) (.tmp 26) rfl rfl rfl hlt ?_)
      | ((with_reducible refine a0e 28 ?_);refine a0x (o:=⟨some 28,_,_,_,_,_⟩) (cs:=shC (n,sg)) e0g rfl (.tmp 27) rfl rfl E.out (a3s hl64.out) ?_)
      | ((with_reducible refine a0e 29 ?_);(refine a1r (o:=⟨some 29,_,_,_,_,_⟩) (v0:=.agg (shC (n,sg)).toArray) (cells:=(shC (n,sg)).toArray) rfl a6u rfl rfl (by decide) rfl (by rw [List.size_toArray];exact a3s hl64.out) ?_);intro g29 w29 m29
         have R29:=hjd (b1f m29.blk (a3s hl64.out))
         replace K:=hjd (K.out.a0f m29.kept)
         replace O:=hjd (O.out.a0k m29.kept)
         clear m29)
      | (at_builtin;refine a3g a6u rfl (.tmp 24) (.tmp 29) rfl rfl (xs:=xs.flatMap shC) (n:=xs.length) (m:=1) (news:=shC (n,sg)) O.out rfl R29.out (b2d _) (by omega) (by omega) ?_
         intro x30 w30 o30 k30 b30
         have O2:=hjd (show Ow w30 60 65 x30 (xs ++ [(n,sg)]).length ((xs ++ [(n,sg)]).flatMap shC)from by simpa using o30)
         have K2:=hjd (K.out.fresh k30 (fun k hk=>OF.out k (Option.mem_toList.1 hk)))
         have F2:=hjd (show∀k,x30.ownBlock=some k→w.heap.size≤k from fun k hk=>by
          rcases b30 with b | b
          ·exact OF.out k (b▸hk)
          ·rw [b]at hk
           cases hk
           exact K.out.size)
         clear o30 k30 b30 R29))
     go_roundg (sh.length - (j + 1))
     case measure=>omega
     case rel=>exact⟨j + 1,by omega,by omega,by go_num,hjd (by rw [hy.out];exact⟨O2.out,F2.out⟩),K2⟩
    ·have hy:=hjd (hst.out.trans (if_neg (fun h=>hB (hPk.1 h))))
     have hBi:¬(0:Int) < (y.toNat:Int) % 3:=by omega
     have hBt:¬(0:Int) < (y.toNat:Int).tmod 3:=by rw [Int.tmod_eq_emod_of_nonneg (by omega)];exact hBi
     replace hPk:=hjd hPk
     go_wp2_with (first
      | ((with_reducible refine a0e 19 ?_);refine a1n (o:=⟨some 19,_,_,_,_,_⟩) a2c (by kernel_rfl) (.tmp 17) (.tmp 18) rfl rfl rfl hjl.out ?_))
     go_roundg (sh.length - (j + 1))
     case measure=>omega
     case rel=>exact⟨j + 1,by omega,by omega,by go_num,hjd (by rw [hy.out];exact⟨O.out,OF.out⟩),K⟩
  ·obtain rfl:j=sh.length:=by omega
   have O:=hjd hO.out.1
   clear hO
   have hO1:=O.out
   obtain⟨XA,xc,rfl,e1⟩:=hO1.shape
   clear hO1 e1
   go_wp2_with fail
   go_ret
   exact⟨_,_,rfl,Rd.a6m O.out,K.out⟩
end Go.Proofs.Ytdbngnlpafcogaa
namespace Go.Proofs.Ytdbngnlpafcogaa
open Go.RowKit Go.Mem Go.Txt
theorem b4b(ok:Nat→List UInt8→Bool)(sh:List Shr):∀j,j≤sh.length→∀k i,a3p ok sh j k=some i→k < 7∧i < j∧ok k (sh.getD i (0,[])).2=true∧(sh.getD i (0,[])).1=(k:Int)
 | 0,_,k,i,h=>by cases h
 | j + 1,hj,k,i,h=>by
   have ih:=b4b ok sh j (by omega) k i
   have e:a3p ok sh (j + 1)=b6i ok (a3p ok sh j) j (sh.getD j (0,[])):=rfl
   rw [e]at h
   unfold b6i at h
   split at h
   ·rename_i hc
    dsimp only at h
    split at h
    ·rename_i hk
     cases h
     refine⟨by omega,by omega,by rw [hk];exact hc.2.2.2,by omega⟩
    ·have:=ih h
     exact⟨this.1,by omega,this.2.2⟩
   ·have:=ih h
    exact⟨this.1,by omega,this.2.2⟩
theorem b4k(B:Nat→Option Nat)(q:Nat):∀j,(a3m B q j).Pairwise (· < ·)∧∀k∈a3m B q j,k < j∧(B k).isSome=true
 | 0=>⟨List.Pairwise.nil,fun k h=>by cases h⟩
 | j + 1=>by
   obtain⟨h1,h2⟩:=b4k B q j
   unfold a3m
   split
   ·rename_i hc
    refine⟨List.pairwise_append.2 ⟨h1,List.pairwise_singleton _ _,fun a ha b hb=>?_⟩,fun k hk=>?_⟩
    ·rw [List.mem_singleton.1 hb]
     exact(h2 a ha).1
    ·rcases List.mem_append.1 hk with hk | hk
     ·exact⟨by have:=(h2 k hk).1;omega,(h2 k hk).2⟩
     ·rw [List.mem_singleton.1 hk]
      exact⟨by omega,hc.1⟩
   ·exact⟨h1,fun k hk=>⟨by have:=(h2 k hk).1;omega,(h2 k hk).2⟩⟩
theorem c8f(B:Nat→Option Nat)(q:Nat):∀j,(a3m B q j).length=min q ((List.range j).filter fun k=>(B k).isSome).length
 | 0=>by simp [a3m]
 | j + 1=>by
   have ih:=c8f B q j
   rw [List.range_succ,List.filter_append,List.length_append,filter_one]
   unfold a3m
   by_cases hs:(B j).isSome=true
   ·rw [if_pos hs]
    by_cases hq:(a3m B q j).length < q
    ·rw [if_pos ⟨hs,hq⟩,List.length_append,List.length_singleton]
     omega
    ·rw [if_neg (fun h=>hq h.2)]
     omega
   ·rw [if_neg hs,if_neg (fun h=>hs h.1)]
    omega
theorem c1d{B:Nat→Option Nat}{q:Nat}(h:q≤c2e B):(a3m B q 7).length=q:=by
 rw [c8f]
 unfold c2e at h
 omega
theorem b7o(n:Nat):∀(l:List Nat) (last:Int),l.Pairwise (· < ·)→(∀k∈l,last < (k:Int)∧k < n)→b5x n last (l.map fun(k:Nat)=>(k:Int))=true
 | [],_,_,_=>rfl
 | x :: l,last,hp,ha=>by
   rw [List.pairwise_cons]at hp
   have hx:=ha x (by simp)
   simp only [List.map_cons,b5x,Bool.and_eq_true,decide_eq_true_eq]
   refine⟨⟨hx.1,by omega⟩,b7o n l x hp.2 fun k hk=>⟨by have:=hp.1 k hk;omega,(ha k (by simp [hk])).2⟩⟩
theorem c9j{q n:Nat}{ok:Nat→List UInt8→Bool}{sh:List Shr}(hn:∀k s,ok k s=true→k < n)(hq:q≤c2e (a3p ok sh sh.length)) :
 a3n q n ok ((a3m (a3p ok sh sh.length) q 7).map fun(k:Nat)=>(k:Int)) ((a3m (a3p ok sh sh.length) q 7).map fun k=>b2k sh (a3p ok sh sh.length) k)=0:=by
 have hl:=c1d hq
 obtain⟨hp,hm⟩:=b4k (a3p ok sh sh.length) q 7
 have hok:∀k∈a3m (a3p ok sh sh.length) q 7,ok k (b2k sh (a3p ok sh sh.length) k)=true:=by
  intro k hk
  obtain⟨i,hi⟩:=Option.isSome_iff_exists.1 (hm k hk).2
  have:=b4b ok sh sh.length (Nat.le_refl _) k i hi
  unfold b2k
  rw [hi]
  exact this.2.2.1
 generalize a3m (a3p ok sh sh.length) q 7=L at *
 unfold a3n
 rw [if_neg (by simp [hl]),if_neg,if_pos]
 ·intro k hk
  have hkL:k < L.length:=by simpa using hk
  have:=hok L[k] (List.getElem_mem _)
  simpa [List.getD_eq_getElem?_getD,List.getElem?_eq_getElem hkL]using this
 ·rw [b7o n L (-1) hp fun k hk=>⟨by omega,hn _ _ (hok k hk)⟩]
  simp
theorem e0a{keys:List (List UInt8)}{tag:UInt8}{body:List UInt8}{k:Nat}{s:List UInt8}(h:okR keys tag body k s=true):k < keys.length:=by
 unfold okR at h
 simp only [Bool.and_eq_true,decide_eq_true_eq]at h
 exact h.1
theorem b0a:∀(n:Nat) (L:List Nat),L.Nodup→(∀a∈L,a < n)→L.length≤n
 | 0,L,_,h=>by
   cases L with
   | nil=>simp
   | cons a L=>exact absurd (h a (by simp)) (by omega)
 | n + 1,L,hd,h=>by
   by_cases hn:n∈L
   ·have h1:=b0a n (L.erase n) (hd.erase n) fun a ha=>by
     have:=(hd.mem_erase_iff).1 ha
     have:=h a this.2
     omega
    rw [List.length_erase_of_mem hn]at h1
    omega
   ·have:=b0a n L hd fun a ha=>by
     have h1:=h a ha
     have:a≠n:=fun e=>hn (e▸ha)
     omega
    omega
theorem d6y{n q:Nat}{X Y:List Nat}(hx:X.Nodup)(hy:Y.Nodup)(hX:∀k∈X,k < n)(hY:∀k∈Y,k < n)(h1:X.length=q)(h2:Y.length=q):2 * q≤n + (X.filter fun k=>Y.contains k).length:=by
 have e1:((X.filter fun k=>!Y.contains k) ++ Y).Nodup:=by
  rw [List.nodup_append]
  refine⟨hx.filter _,hy,fun a ha b hb hab=>?_⟩
  have:=(List.mem_filter.1 ha).2
  subst hab
  simp [hb]at this
 have e2:((X.filter fun k=>!Y.contains k) ++ Y).length≤n:=by
  refine b0a n _ e1 fun a ha=>?_
  rcases List.mem_append.1 ha with ha | ha
  ·exact hX a (List.mem_filter.1 ha).1
  ·exact hY a ha
 have e3:(X.filter fun k=>Y.contains k).length + (X.filter fun k=>!Y.contains k).length=X.length:=by
  clear e1 e2 hx hX h1
  induction X with
  | nil=>rfl
  | cons a X ih=>
    by_cases h:Y.contains a=true
    ·rw [List.filter_cons,List.filter_cons,if_pos h,if_neg (by rw [h];simp),List.length_cons,List.length_cons]
     omega
    ·rw [List.filter_cons,List.filter_cons,if_neg h,if_pos (by simpa using h),List.length_cons,List.length_cons]
     omega
 rw [List.length_append]at e2
 omega
end Go.Proofs.Ytdbngnlpafcogaa
namespace Go.Proofs.Ytdbngnlpafcogaa
open Go.RowKit Go.Mem Go.Txt
def b3k(SL:Nat→List UInt8)(n:Nat):List Shr:=(List.range n).map fun(i:Nat)=>((i:Int),SL i)
theorem e5i(SL:Nat→List UInt8)(n:Nat):(b3k SL n).length=n:=by simp [b3k]
theorem all_at{SL:Nat→List UInt8}{n i:Nat}(h:i < n):(b3k SL n).getD i (0,[])=((i:Int),SL i):=by
 unfold b3k
 simp [List.getD_eq_getElem?_getD,h]
theorem all_succ(SL:Nat→List UInt8)(n:Nat):b3k SL (n + 1)=b3k SL n ++ [((n:Int),SL n)]:=by
 unfold b3k
 rw [List.range_succ,List.map_append]
 rfl
theorem b9m{SL:Nat→List UInt8}{l:List UInt8}{n:Nat}:∀j,j≤n→∃L:List Nat,a5q (b3k SL n) l j=L.map (fun(i:Nat)=>((i:Int),SL i))∧L.Pairwise (· < ·)∧∀i∈L,i < j
 | 0,_=>⟨[],rfl,List.Pairwise.nil,fun i h=>by cases h⟩
 | j + 1,hj=>by
   obtain⟨L,h1,h2,h3⟩:=b9m (SL:=SL) (l:=l) (n:=n) j (by omega)
   by_cases hp:b8v l j
   ·refine⟨L ++ [j],?_,List.pairwise_append.2 ⟨h2,List.pairwise_singleton _ _,fun a ha b hb=>?_⟩,fun i hi=>?_⟩
    ·show(if b8v l j then a5q (b3k SL n) l j ++ [(b3k SL n).getD j (0,[])]else a5q (b3k SL n) l j)=_
     rw [if_pos hp,h1,all_at (by omega)]
     simp
    ·rw [List.mem_singleton.1 hb]
     exact h3 a ha
    ·rcases List.mem_append.1 hi with hi | hi
     ·have:=h3 i hi;omega
     ·rw [List.mem_singleton.1 hi];omega
   ·refine⟨L,?_,h2,fun i hi=>by have:=h3 i hi;omega⟩
    show(if b8v l j then a5q (b3k SL n) l j ++ [(b3k SL n).getD j (0,[])]else a5q (b3k SL n) l j)=_
    rw [if_neg hp,h1]
theorem c7c{ok:Nat→List UInt8→Bool}{SL:Nat→List UInt8}{L:List Nat}(hp:L.Pairwise (· < ·))(h7:∀i∈L,i < 7)(hok:∀i∈L,ok i (SL i)=true):∀j,j≤L.length→∀k,(a3p ok (L.map fun(i:Nat)=>((i:Int),SL i)) j k).isSome=(L.take j).contains k
 | 0,_,k=>by simp [a3p]
 | j + 1,hj,k=>by
   have ih:=c7c hp h7 hok j (by omega)
   have e:a3p ok (L.map fun(i:Nat)=>((i:Int),SL i)) (j + 1)=b6i ok (a3p ok (L.map fun(i:Nat)=>((i:Int),SL i)) j) j ((L.map fun(i:Nat)=>((i:Int),SL i)).getD j (0,[])):=rfl
   have hx:(L.map fun(i:Nat)=>((i:Int),SL i)).getD j (0,[])=(((L[j]'(by omega):Nat):Int),SL (L[j]'(by omega))):=by
    simp [List.getD_eq_getElem?_getD,show j < L.length by omega]
   have hm:L[j]'(by omega)∈L:=List.getElem_mem _
   have hnone:a3p ok (L.map fun(i:Nat)=>((i:Int),SL i)) j (L[j]'(by omega))=none:=by
    have h2:=ih (L[j]'(by omega))
    cases hq:a3p ok (L.map fun(i:Nat)=>((i:Int),SL i)) j (L[j]'(by omega))with
    | none=>rfl
    | some z=>
      rw [hq]at h2
      have h3:L[j]'(by omega)∈L.take j:=by simpa using h2.symm
      obtain⟨q,hq2,hq3⟩:=List.mem_iff_getElem.1 h3
      have hq4:q < j:=by simp at hq2;omega
      have:=(List.pairwise_iff_getElem.1 hp) q j (by omega) (by omega) hq4
      rw [List.getElem_take]at hq3
      omega
   rw [e,hx]
   unfold b6i
   rw [if_pos ⟨by simp,by have:=h7 _ hm;simp;omega,by simpa using hnone,by simpa using hok _ hm⟩]
   have ht:L.take (j + 1)=L.take j ++ [L[j]'(by omega)]:=List.take_succ_eq_append_getElem (by omega)
   rw [ht]
   have hcn:∀(A B:List Nat),(A ++ B).contains k=(A.contains k || B.contains k):=fun A B=>by simp
   rw [hcn]
   by_cases hk:k=L[j]'(by omega)
   ·rw [if_pos (show k=((((L[j]'(by omega):Nat):Int)).toNat)from by simpa using hk),show [L[j]'(by omega)].contains k=true from by simp [hk]]
    simp
   ·rw [if_neg (show ¬k=((((L[j]'(by omega):Nat):Int)).toNat)from by simpa using hk),ih k,show [L[j]'(by omega)].contains k=false from by simpa using hk]
    simp
theorem e4f{ok:Nat→List UInt8→Bool}{SL:Nat→List UInt8}{L:List Nat}(hp:L.Pairwise (· < ·))(h7:∀i∈L,i < 7)(hok:∀i∈L,ok i (SL i)=true):c2e (a3p ok (L.map fun(i:Nat)=>((i:Int),SL i)) (L.map fun(i:Nat)=>((i:Int),SL i)).length)=L.length:=by
 unfold c2e
 have h1:((List.range 7).filter fun k=>(a3p ok (L.map fun(i:Nat)=>((i:Int),SL i)) (L.map fun(i:Nat)=>((i:Int),SL i)).length k).isSome)=(List.range 7).filter fun k=>L.contains k:=by
  refine List.filter_congr fun k _=>?_
  rw [List.length_map,c7c hp h7 hok L.length (Nat.le_refl _) k,List.take_length]
 rw [h1]
 have h2:((List.range 7).filter fun k=>L.contains k).Perm L:=by
  refine(List.perm_ext_iff_of_nodup (List.nodup_range.filter _) (hp.imp (fun h=>by omega))).2 fun a=>?_
  simp only [List.mem_filter,List.mem_range,List.contains_iff_mem]
  exact⟨fun h=>h.2,fun h=>⟨h7 a h,h⟩⟩
 exact h2.length_eq
def c7j(Y:List Nat)(x:Nat):Nat→Nat
 | 0=>0
 | q + 1=>if x=Y.getD q 0 then c7j Y x q + 1 else c7j Y x q
def a9s(X Y:List Nat):Nat→Nat
 | 0=>0
 | p + 1=>a9s X Y p + c7j Y (X.getD p 0) Y.length
theorem d1n(Y:List Nat)(x:Nat):∀q,c7j Y x q≤q
 | 0=>Nat.le_refl _
 | q + 1=>by
   have:=d1n Y x q
   unfold c7j
   split <;> omega
theorem d1k{Y:List Nat}{x:Nat}:∀q,q≤Y.length→x∈Y.take q→1≤c7j Y x q
 | 0,_,h=>by simp at h
 | q + 1,hq,h=>by
   rw [List.take_succ_eq_append_getElem (by omega),List.mem_append,List.mem_singleton]at h
   unfold c7j
   have hg:Y.getD q 0=Y[q]'(by omega):=by simp [List.getD_eq_getElem?_getD,show q < Y.length by omega]
   rw [hg]
   rcases h with h | h
   ·have:=d1k q (by omega) h
    split <;> omega
   ·rw [if_pos h]
    omega
theorem d3v{X Y:List Nat}:∀p,p≤X.length→((X.take p).filter fun k=>Y.contains k).length≤a9s X Y p
 | 0,_=>by simp [a9s]
 | p + 1,hp=>by
   have ih:=d3v (X:=X) (Y:=Y) p (by omega)
   rw [List.take_succ_eq_append_getElem (by omega),List.filter_append,List.length_append]
   unfold a9s
   have hg:X.getD p 0=X[p]'(by omega):=by simp [List.getD_eq_getElem?_getD,show p < X.length by omega]
   rw [hg]
   by_cases hc:Y.contains (X[p]'(by omega))=true
   ·have:=d1k (Y:=Y) (x:=X[p]'(by omega)) Y.length (Nat.le_refl _) (by rw [List.take_length];simpa using hc)
    simp only [List.filter_cons,hc,if_true,List.filter_nil,List.length_singleton]
    omega
   ·simp only [List.filter_cons,hc,if_false,List.filter_nil,List.length_nil,Bool.false_eq_true]
    omega
theorem d2j{X Y:List Nat}:∀p,a9s X Y p≤p * Y.length
 | 0=>by simp [a9s]
 | p + 1=>by
   have ih:=d2j (X:=X) (Y:=Y) p
   have:=d1n Y (X.getD p 0) Y.length
   unfold a9s
   rw [Nat.succ_mul]
   omega
theorem c1a{k:Nat}{X Y:List Nat}(hx:X.Nodup)(hy:Y.Nodup)(hX:∀i∈X,i < 3 * k + 1)(hY:∀i∈Y,i < 3 * k + 1)(h1:X.length=2 * k + 1)(h2:Y.length=2 * k + 1):k + 1≤a9s X Y X.length:=by
 have:=d6y hx hy hX hY h1 h2
 have h3:=d3v (X:=X) (Y:=Y) X.length (Nat.le_refl _)
 rw [List.take_length]at h3
 omega
end Go.Proofs.Ytdbngnlpafcogaa
namespace Go.Proofs.Ytdbngnlpafcogaa
open Go.RowKit Go.Mem Go.Txt
theorem e1n(bs:List UInt8)(j:Nat)(x:UInt8):(bv bs).set j (a2m x)=bv (bs.set j x):=by
 unfold bv
 rw [List.map_set]
section
variable {e:TypeId} {s n c g o:Nat}
theorem d6a{w:World}{xs:List Value}(h:Ow w e s (.slice (some ⟨g,o,none⟩) n c) n xs){j:Nat}(hj:j < xs.length)(u:Value):Ow (w.setCell ⟨g,o + j,none⟩ u) e s (.slice (some ⟨g,o,none⟩) n c) n (xs.set j u):=by
 have hn:0 < n:=by
  rcases Nat.eq_zero_or_pos n with h0 | h0
  ·have:=h.1
   rw [h0,Nat.zero_mul]at this
   omega
  ·exact h0
 obtain⟨g2,o2,c2,e2,_,_,_,h5⟩:=h.at_ hn
 cases e2
 exact h5 j u hj
theorem d5d:∀(sg:List UInt8) (j:Nat) (w:World) (bs:List UInt8),Ow w e s (.slice (some ⟨g,o,none⟩) n c) n (bv bs)→j + sg.length≤bs.length→∃bs':List UInt8,Ow (w.setCells g (o + j) (bv sg)) e s (.slice (some ⟨g,o,none⟩) n c) n (bv bs')
 | [],j,w,bs,h,_=>⟨bs,h⟩
 | x :: sg,j,w,bs,h,hl=>by
   have h1:=d6a h (j:=j) (by simp at hl ⊢;omega) (a2m x)
   rw [e1n]at h1
   obtain⟨bs',h2⟩:=d5d sg (j + 1) _ _ h1 (by simp at hl ⊢;omega)
   exact⟨bs',h2⟩
theorem c8g{w:World}{xs:List Value}(h:Ow w e s (.slice (some ⟨g,o,none⟩) n c) n xs){j k:Nat}(hj:j + k≤xs.length):w.there g (o + j) k:=by
 intro i hi
 have hn:0 < n:=by
  rcases Nat.eq_zero_or_pos n with h0 | h0
  ·have:=h.1
   rw [h0,Nat.zero_mul]at this
   omega
  ·exact h0
 obtain⟨g2,o2,c2,e2,_,hc,hf,_⟩:=h.at_ hn
 cases e2
 refine⟨?_,hf _⟩
 have:=hc (j + i) _ (List.getElem?_eq_getElem (by omega))
 rw [←Nat.add_assoc]at this
 rw [this]
 rfl
variable {P:Program} {w:World} {o':Oper} {a:Act} {C:Act→World→Prop} {R:Exit→Act→World→Prop} {ops:Array Oper} {rest:List Oper} {Q:Exit→Act→World→Prop} {t:TypeId}
theorem d5i{xs:List Value}(x y:Operand)(ho:o'.op= .store t x y){j:Nat}(hx:a.eval x= .pointer (some ⟨g,o + j,none⟩)){v:Value}(hy:a.eval y=v)(h1:v.oneCell'=true)(hs:(P.info? t).map (·.size)=some 1)
 (hw:Ow w e s (.slice (some ⟨g,o,none⟩) n c) n xs) (hj:j < xs.length) (h:∀w',Ow w' e s (.slice (some ⟨g,o,none⟩) n c) n (xs.set j v)→Kept [g] w w'→C (a.put o'.dst undef) w'):o'.wp P a w C R:=by
 have hc:v.cells= #[v]:=by cases v <;> first | rfl | cases h1
 have ht:=c8g hw (j:=j) (k:=1) (by omega)
 have hrun:(storeVar t ⟨g,o + j,none⟩ v).run P w= .ok () (w.setCells g (o + j) [v]):=by
  have:=run_storeCells_cells (P:=P) g (o + j) [v] 0 w (fun i hi=>by simpa using(ht i (by simpa using hi)).1) (fun i hi=>by simpa using(ht i (by simpa using hi)).2) (fun u hu=>by simp at hu;subst hu;exact h1)
  cases hq:P.info? t with
  | none=>simp [hq]at hs
  | some i=>
    have hs2:i.size=1:=by simpa [hq]using hs
    simp only [Nat.add_zero]at this
    simp [storeVar,sizeOf,typeInfo,hq,hc,hs2,this]
 unfold Oper.wp execOp
 simp only [ho,hx,hy,Instr.storeAt,Instr.sureAddr,Sem.run_bind,Sem.run_pure,Result.andThen_ok,hrun]
 exact h _ (d6a hw hj v) (Kept.setCells [v] (o + j) w)
theorem b2o(hgd:Region.wanted o' (yielded ops a.tmps)=true){xs:List Value}(x y:Operand)(ho:o'.op= .store t x y){j:Nat}(hx:a.eval x= .pointer (some ⟨g,o + j,none⟩)){v:Value}(hy:a.eval y=v)(h1:v.oneCell'=true)(hs:(P.info? t).map (·.size)=some 1)
 (hw:Ow w e s (.slice (some ⟨g,o,none⟩) n c) n xs) (hj:j < xs.length) (h:∀w',Ow w' e s (.slice (some ⟨g,o,none⟩) n c) n (xs.set j v)→Kept [g] w w'→wpList P ops Q rest (a.put o'.dst undef) w'):wpList P ops Q (o' :: rest) a w:=
 a1m hgd fun _ hK=>d5i x y ho hx hy h1 hs hw hj fun w' h2 h3=>hK _ _ (h w' h2 h3)
theorem c8m{k:Nat}(T:RowT P t k){bs sg:List UInt8}(x y:Operand)(ho:o'.op= .store t x y){j:Nat}(hx:a.eval x= .pointer (some ⟨g,o + j,none⟩))(hy:a.eval y=ab sg)(hsg:sg.length=k)
 (hw:Ow w e s (.slice (some ⟨g,o,none⟩) n c) n (bv bs)) (hj:j + k≤bs.length) (h:∀w' bs',Ow w' e s (.slice (some ⟨g,o,none⟩) n c) n (bv bs')→Kept [g] w w'→C (a.put o'.dst undef) w'):o'.wp P a w C R:=by
 obtain⟨bs',h2⟩:=d5d sg j w bs hw (by omega)
 exact wp_store_mid t x y ho g (o + j) (bv sg).toArray hx hy (c8g hw (by simp;omega)) (by rw [T.2];simp [hsg]) (a3q _) (h _ bs' h2 (Kept.setCells _ _ w))
theorem a9j(hgd:Region.wanted o' (yielded ops a.tmps)=true){bt:TypeId}{b off:Nat}{v:Value}{cs:Array Value}(x y:Operand)(ho:o'.op= .store t x y)(hx:a.eval x= .pointer (some ⟨b,off,none⟩))(hy:a.eval y=v)(h1:v.oneCell'=true)
 (hs:(P.info? t).map (·.size)=some 1) (hb:Blk w b bt cs) (hl:off < cs.size) (h:∀w',Blk w' b bt (cs.setIfInBounds off v)→Kept [b] w w'→wpList P ops Q rest (a.put o'.dst undef) w'):wpList P ops Q (o' :: rest) a w:=
 a1m hgd fun _ hK=>b0p x y ho hx hy h1 hs hb hl fun w' h2 h3=>hK _ _ (h w' h2 h3)
end
theorem d8u(w:World)(e:TypeId)(s:Nat)(fr:Array Value)(hf:fr= #[]):Ow (w.alloc (.cells fr e)) e s (.slice (some ⟨w.heap.size,0,none⟩) 0 0) 0 []:=by
 subst hf
 exact⟨by simp,.inr ⟨_,_,_,_,rfl,Blk.new _ _ _,Nat.le_refl _,by omega,by simp,by simp⟩⟩
theorem c7s:∀(n:Nat) (bs:List UInt8),bs.length=n * 64→∃gs:List (List UInt8),gs.length=n∧(∀g∈gs,g.length=64)∧gs.flatMap bv=bv bs
 | 0,bs,h=>⟨[],rfl,by simp,by have:bs= []:=List.length_eq_zero_iff.1 (by omega);rw [this];rfl⟩
 | n + 1,bs,h=>by
   obtain⟨gs,h1,h2,h3⟩:=c7s n (bs.drop 64) (by rw [List.length_drop,h];omega)
   refine⟨bs.take 64 :: gs,by simp [h1],?_,?_⟩
   ·intro g hg
    rcases List.mem_cons.1 hg with rfl | hg
    ·rw [List.length_take,h];omega
    ·exact h2 g hg
   ·rw [List.flatMap_cons,h3]
    conv=>rhs;rw [←List.take_append_drop 64 bs]
    simp [bv]
structure CO (w1:World) (g10:Nat) (bd:List UInt8) (ns:List Int) (bs:List UInt8) (n:Nat) (bw sv gv:Value) (u:World):Prop where
 k:Kept [] w1 u
 gg:w1.heap.size≤g10
 b:Blk u g10 63 #[bw,sv,gv]
 m:Ow u 5 1 bw bd.length (bv bd)
 mf:∀k,bw.ownBlock=some k→w1.heap.size≤k
 s:Ow u 3 1 sv ns.length (iv ns)
 sf:∀k,sv.ownBlock=some k→w1.heap.size≤k
 g:Ow u 24 64 gv n (bv bs)
 gf:∀k,gv.ownBlock=some k→w1.heap.size≤k
section
variable {w1:World} {g10:Nat} {bd bd':List UInt8} {ns ns':List Int} {bs bs':List UInt8} {n n':Nat} {bw sv gv v':Value} {u uc u2:World}
theorem CO.a0k(h:CO w1 g10 bd ns bs n bw sv gv u)(hk:Kept [] u u2):CO w1 g10 bd ns bs n bw sv gv u2:=
 ⟨h.k.a0f hk,h.gg,h.b.kept hk (by simp),h.m.a0k hk,h.mf,h.s.a0k hk,h.sf,h.g.a0k hk,h.gf⟩
theorem b0y{v v':Value}{k0 k1:Nat}(hf:∀k,v.ownBlock=some k→k0≤k)(hk:k0≤k1)(hn:v'.ownBlock=v.ownBlock∨∀k,v'.ownBlock=some k→k1≤k):∀k,v'.ownBlock=some k→k0≤k:=by
 intro k h
 rcases hn with e | e
 ·exact hf k (e▸h)
 ·exact Nat.le_trans hk (e k h)
theorem d4c{v':Value}{ob:Option Nat}{k1:Nat}(h:v'.ownBlock=ob∨v'.ownBlock=some k1):v'.ownBlock=ob∨∀k,v'.ownBlock=some k→k1≤k:=
 h.imp id fun e k hk=>by
  rw [e]at hk
  cases hk
  exact Nat.le_refl _
theorem CO.e3g(h:CO w1 g10 bd ns bs n bw sv gv u)(kc:Kept sv.ownBlock.toList u uc)(ho:Ow uc 3 1 v' ns'.length (iv ns'))(hn:v'.ownBlock=sv.ownBlock∨∀k,v'.ownBlock=some k→u.heap.size≤k)(b2:Blk u2 g10 63 #[bw,v',gv])(k2:Kept [g10] uc u2):CO w1 g10 bd ns' bs n bw v' gv u2:=by
 have far:∀{e s n v xs},Ow u e s v n xs→e≠63→e≠3→Ow u2 e s v n xs:=fun o he hi=>
  (o.kept kc fun k hk hm=>o.ne_ h.s hi k hk (Option.mem_toList.1 hm)).kept k2 fun k hk hm=>by
    rw [List.mem_singleton.1 hm]at hk
    exact o.a3z h.b he hk
 have bc:Blk uc g10 63 #[bw,sv,gv]:=h.b.kept kc fun hk=>h.s.a3z h.b (by decide) (Option.mem_toList.1 hk)
 exact⟨(h.k.fresh kc (fun k hk=>h.sf k (Option.mem_toList.1 hk))).fresh k2 (by simpa using h.gg),h.gg,b2,far h.m (by decide) (by decide),h.mf,
  ho.kept k2 (fun k hk hm=>by rw [List.mem_singleton.1 hm]at hk;exact ho.a3z bc (by decide) hk),b0y h.sf h.k.size hn,far h.g (by decide) (by decide),h.gf⟩
theorem CO.e3r(h:CO w1 g10 bd ns bs n bw sv gv u)(kc:Kept gv.ownBlock.toList u uc)(ho:Ow uc 24 64 v' n' (bv bs'))(hn:v'.ownBlock=gv.ownBlock∨∀k,v'.ownBlock=some k→u.heap.size≤k)(b2:Blk u2 g10 63 #[bw,sv,v'])(k2:Kept [g10] uc u2):CO w1 g10 bd ns bs' n' bw sv v' u2:=by
 have far:∀{e s n v xs},Ow u e s v n xs→e≠63→e≠24→Ow u2 e s v n xs:=fun o he hi=>
  (o.kept kc fun k hk hm=>o.ne_ h.g hi k hk (Option.mem_toList.1 hm)).kept k2 fun k hk hm=>by
    rw [List.mem_singleton.1 hm]at hk
    exact o.a3z h.b he hk
 have bc:Blk uc g10 63 #[bw,sv,gv]:=h.b.kept kc fun hk=>h.g.a3z h.b (by decide) (Option.mem_toList.1 hk)
 exact⟨(h.k.fresh kc (fun k hk=>h.gf k (Option.mem_toList.1 hk))).fresh k2 (by simpa using h.gg),h.gg,b2,far h.m (by decide) (by decide),h.mf,far h.s (by decide) (by decide),h.sf,
  ho.kept k2 (fun k hk hm=>by rw [List.mem_singleton.1 hm]at hk;exact ho.a3z bc (by decide) hk),b0y h.gf h.k.size hn⟩
theorem CO.turnB(h:CO w1 g10 bd ns bs n bw sv gv u)(kc:Kept bw.ownBlock.toList u uc)(ho:Ow uc 5 1 v' bd'.length (bv bd'))(hn:v'.ownBlock=bw.ownBlock∨∀k,v'.ownBlock=some k→u.heap.size≤k)(b2:Blk u2 g10 63 #[v',sv,gv])(k2:Kept [g10] uc u2):CO w1 g10 bd' ns bs n v' sv gv u2:=by
 have far:∀{e s n v xs},Ow u e s v n xs→e≠63→e≠5→Ow u2 e s v n xs:=fun o he hi=>
  (o.kept kc fun k hk hm=>o.ne_ h.m hi k hk (Option.mem_toList.1 hm)).kept k2 fun k hk hm=>by
    rw [List.mem_singleton.1 hm]at hk
    exact o.a3z h.b he hk
 have bc:Blk uc g10 63 #[bw,sv,gv]:=h.b.kept kc fun hk=>h.m.a3z h.b (by decide) (Option.mem_toList.1 hk)
 exact⟨(h.k.fresh kc (fun k hk=>h.mf k (Option.mem_toList.1 hk))).fresh k2 (by simpa using h.gg),h.gg,b2,
  ho.kept k2 (fun k hk hm=>by rw [List.mem_singleton.1 hm]at hk;exact ho.a3z bc (by decide) hk),b0y h.mf h.k.size hn,far h.s (by decide) (by decide),h.sf,far h.g (by decide) (by decide),h.gf⟩
theorem CO.e1j(h:CO w1 g10 bd ns bs n bw sv gv u)(kc:Kept sv.ownBlock.toList u uc)(ho:Ow uc 3 1 sv ns'.length (iv ns')):CO w1 g10 bd ns' bs n bw sv gv uc:=
 h.e3g kc ho (.inl rfl) (h.b.kept kc fun hk=>h.s.a3z h.b (by decide) (Option.mem_toList.1 hk)) (Kept.refl _ _)
theorem CO.e0f(h:CO w1 g10 bd ns bs n bw sv gv u)(kc:Kept gv.ownBlock.toList u uc)(ho:Ow uc 24 64 gv n (bv bs')):CO w1 g10 bd ns bs' n bw sv gv uc:=
 h.e3r kc ho (.inl rfl) (h.b.kept kc fun hk=>h.g.a3z h.b (by decide) (Option.mem_toList.1 hk)) (Kept.refl _ _)
end
end Go.Proofs.Ytdbngnlpafcogaa
namespace Go.Proofs.Ytdbngnlpafcogaa
open Go.RowKit Go.Mem Go.Txt
theorem mod_n(x:Int){m:Nat}(h0:0 < m)(hm:m≤1000):∃n:Nat,wrap64 ((IntKind.u64.wrap x).tmod (m:Int))=n∧n < m:=by
 rw [show IntKind.u64.wrap x=x % 18446744073709551616 from rfl]
 have h1:0≤x % 18446744073709551616:=by omega
 rw [Int.tmod_eq_emod_of_nonneg h1]
 have h2:=Int.emod_nonneg (x % 18446744073709551616) (show(m:Int)≠0 by omega)
 have h3:=Int.emod_lt_of_pos (x % 18446744073709551616) (show(0:Int) < m by omega)
 refine⟨(x % 18446744073709551616 % m).toNat,?_,by omega⟩
 rw [IntWalk.wrap64_in _ (by omega)]
 omega
theorem mod_u(x:Int){m:Nat}(h0:0 < m):∃n:Nat,(IntKind.u64.wrap x).tmod (m:Int)=n∧n < m:=by
 rw [show IntKind.u64.wrap x=x % 18446744073709551616 from rfl]
 have h1:0≤x % 18446744073709551616:=by omega
 rw [Int.tmod_eq_emod_of_nonneg h1]
 have h2:=Int.emod_nonneg (x % 18446744073709551616) (show(m:Int)≠0 by omega)
 have h3:=Int.emod_lt_of_pos (x % 18446744073709551616) (show(0:Int) < m by omega)
 exact⟨(x % 18446744073709551616 % m).toNat,by omega,by omega⟩
theorem six_n(x:Int):(IntKind.u64.wrap x).tmod 6=0∨(IntKind.u64.wrap x).tmod 6=1∨(IntKind.u64.wrap x).tmod 6=2∨(IntKind.u64.wrap x).tmod 6=3∨(IntKind.u64.wrap x).tmod 6=4∨(IntKind.u64.wrap x).tmod 6=5:=by
 obtain⟨n,h,hn⟩:=mod_u x (m:=6) (by omega)
 have e:((6:Nat):Int)=6:=rfl
 rw [e]at h
 rw [h]
 omega
theorem u8_val(x:Int):∃b:UInt8,IntKind.u8.wrap x=(b.toNat:Int):=by
 rw [show IntKind.u8.wrap x=x % 256 from rfl]
 refine⟨UInt8.ofNat (x % 256).toNat,?_⟩
 rw [UInt8.toNat_ofNat_of_lt' (show(x % 256).toNat < 256 by omega)]
 omega
theorem xorN4:∀n:_root_.Fin 256,bits .xor .u8 (n.val:Int) 4=((n.val ^^^ 4:Nat):Int):=by decide +kernel
theorem e4m(a:UInt8):bits .xor .u8 (a.toNat:Int) 4=((a ^^^ 4).toNat:Int):=by
 have h:=a.toNat_lt
 have:=xorN4 ⟨a.toNat,h⟩
 rw [this,UInt8.toNat_xor]
 rfl
theorem e6f:EntT Try.prog 24 5 64 1:=⟨Try.underlying24,by kernel_rfl,by kernel_rfl,by decide⟩
theorem idx64{g q i:Nat}(hi:i < 64)(k:IntKind)(W:World):(Instr.indexAt 24 (.pointer (some ⟨g,q,none⟩)) (.int k (i:Int))).run Try.prog W= .ok (.pointer (some ⟨g,q + i,none⟩)) W:=by
 obtain⟨inf,hinf,hs⟩:=Option.map_eq_some_iff.1 e6f.s
 have h1:(0:Int)≤i∧(i:Int) < (64:Nat):=by omega
 simp only [Instr.indexAt,run_underlying e6f.u,Instr.sureAddr,asIntOf,Sem.run_bind,Sem.run_pure,Result.andThen_ok,h1,and_self,if_true,run_sizeOf W hinf,Int.toNat_natCast,e6f.c]
 congr 3
 unfold Addr.add
 split
 ·rename_i h0
  have:i=0:=by omega
  subst this
  rfl
 ·simp
theorem e6i{e:TypeId}{s n c g o:Nat}{w:World}{xs:List Value}(h:Ow w e s (.slice (some ⟨g,o,none⟩) n c) n xs){j:Nat}{u:Value}(hj:xs[j]?=some u):w.cell? ⟨g,o + j,none⟩=some u:=by
 have hl:=(List.getElem?_eq_some_iff.1 hj).1
 have hn:0 < n:=by
  rcases Nat.eq_zero_or_pos n with h0 | h0
  ·have:=h.1
   rw [h0,Nat.zero_mul]at this
   omega
  ·exact h0
 obtain⟨g2,o2,c2,e2,_,hc,_⟩:=h.at_ hn
 cases e2
 exact hc j u hj
theorem c9f(n a:Nat):(if (a:Int) < (n:Int)then(a:Int)else(n:Int))=((Nat.min n a:Nat):Int):=by
 have:Nat.min n a=min n a:=rfl
 rw [this]
 split <;> omega
theorem e0w(ns:List Int)(a:Nat)(t:Int):(iv ns).set a (.int .i64 t)=iv (ns.set a t):=by
 unfold iv
 rw [List.map_set]
end Go.Proofs.Ytdbngnlpafcogaa
namespace Go.Proofs.Ytdbngnlpafcogaa
open Go.RowKit Go.Mem Go.Txt
def d0i(n:Nat)(ns:List Int)(i:Nat):Prop:=ns.getD i 0 < 0∨(n:Int)≤ns.getD i 0∨(0 < i∧ns.getD i 0≤ns.getD (i - 1) 0)
instance (n:Nat) (ns:List Int) (i:Nat):Decidable (d0i n ns i):=by unfold d0i;infer_instance
def b4v(n:Nat)(ns:List Int):Nat→Int
 | 0=>0
 | j + 1=>if d0i n ns j then 81 else b4v n ns j
def c1n(ok:Nat→Bool):Nat→Int
 | 0=>0
 | j + 1=>if ok j=true then c1n ok j else 60
theorem b2p(n:Nat)(ns:List Int):∀j,b4v n ns j=if∀i,i < j→¬d0i n ns i then 0 else 81
 | 0=>by rw [if_pos (fun i h=>absurd h (by omega))];rfl
 | j + 1=>by
   unfold b4v
   by_cases hb:d0i n ns j
   ·rw [if_pos hb,if_neg (fun h=>h j (by omega) hb)]
   ·rw [if_neg hb,b2p n ns j]
    by_cases h:∀i,i < j→¬d0i n ns i
    ·rw [if_pos h,if_pos]
     intro i hi
     by_cases hij:i=j
     ·subst hij;exact hb
     ·exact h i (by omega)
    ·rw [if_neg h,if_neg (fun h2=>h fun i hi=>h2 i (by omega))]
theorem b6n(ok:Nat→Bool):∀j,c1n ok j=if∀i,i < j→ok i=true then 0 else 60
 | 0=>by rw [if_pos (fun i h=>absurd h (by omega))];rfl
 | j + 1=>by
   unfold c1n
   by_cases hb:ok j=true
   ·rw [if_pos hb,b6n ok j]
    by_cases h:∀i,i < j→ok i=true
    ·rw [if_pos h,if_pos]
     intro i hi
     by_cases hij:i=j
     ·subst hij;exact hb
     ·exact h i (by omega)
    ·rw [if_neg h,if_neg (fun h2=>h fun i hi=>h2 i (by omega))]
   ·rw [if_neg hb,if_neg (fun h=>hb (h j (by omega)))]
theorem b8y(n:Nat):∀(l:List Int) (last:Int),b5x n last l=true↔∀i,i < l.length→(if i=0 then last else l.getD (i - 1) 0) < l.getD i 0∧l.getD i 0 < n
 | [],last=>by simp [b5x]
 | x :: l,last=>by
   have ih:=b8y n l x
   simp only [b5x,Bool.and_eq_true,decide_eq_true_eq,ih]
   constructor
   ·rintro⟨⟨h1,h2⟩,h3⟩ i hi
    cases i with
    | zero=>exact⟨by simpa using h1,by simpa using h2⟩
    | succ i=>
      have h:=h3 i (by simp at hi;omega)
      cases i with
      | zero=>simpa using h
      | succ i=>simpa using h
   ·intro h
    refine⟨⟨by simpa using(h 0 (by simp)).1,by simpa using(h 0 (by simp)).2⟩,fun i hi=>?_⟩
    have h2:=h (i + 1) (by simp;omega)
    cases i with
    | zero=>simpa using h2
    | succ i=>simpa using h2
theorem d2p(n:Nat)(ns:List Int):b5x n (-1) ns=true↔∀i,i < ns.length→¬d0i n ns i:=by
 constructor
 ·intro h i hi hb
  have h1:=(b8y n ns (-1)).1 h i hi
  have h2:=b9e ns (-1) h (ns.getD i 0) (by rw [List.getD_eq_getElem?_getD,List.getElem?_eq_getElem hi];exact List.getElem_mem _)
  rcases hb with hb | hb | ⟨h0,hb⟩
  ·omega
  ·omega
  ·rw [if_neg (by omega)]at h1
   omega
 ·intro h
  refine(b8y n ns (-1)).2 fun i hi=>?_
  have hb:=h i hi
  unfold d0i at hb
  by_cases h0:i=0
  ·rw [if_pos h0]
   refine⟨?_,?_⟩
   ·by_cases h3:ns.getD i 0 < 0
    ·exact absurd (.inl h3) hb
    ·omega
   ·by_cases h3:(n:Int)≤ns.getD i 0
    ·exact absurd (.inr (.inl h3)) hb
    ·omega
  ·rw [if_neg h0]
   refine⟨?_,?_⟩
   ·by_cases h3:ns.getD i 0≤ns.getD (i - 1) 0
    ·exact absurd (.inr (.inr ⟨by omega,h3⟩)) hb
    ·omega
   ·by_cases h3:(n:Int)≤ns.getD i 0
    ·exact absurd (.inr (.inl h3)) hb
    ·omega
theorem c7y{q n:Nat}{ok:Nat→List UInt8→Bool}{ns:List Int}{gs:List (List UInt8)}(h:ns.length≠q∨gs.length≠q):a3n q n ok ns gs=80:=by
 unfold a3n
 rw [if_pos h]
theorem d6s{q n:Nat}{ok:Nat→List UInt8→Bool}{ns:List Int}{gs:List (List UInt8)}(h:ns.length=q)(h2:gs.length=q)(hw:¬b4v n ns ns.length=0):b4v n ns ns.length=81∧a3n q n ok ns gs=81:=by
 rw [b2p]at hw ⊢
 by_cases ha:∀i,i < ns.length→¬d0i n ns i
 ·rw [if_pos ha]at hw
  exact absurd rfl hw
 ·rw [if_neg ha]
  refine⟨rfl,?_⟩
  unfold a3n
  rw [if_neg (by simp [h,h2]),if_pos]
  cases ho:b5x n (-1) ns with
  | false=>rfl
  | true=>exact absurd ((d2p n ns).1 ho) ha
theorem d7h{q n:Nat}{ok:Nat→List UInt8→Bool}{ns:List Int}{gs:List (List UInt8)}(h:ns.length=q)(h2:gs.length=q)(hw:b4v n ns ns.length=0):a3n q n ok ns gs=c1n (fun i=>ok (ns.getD i 0).toNat (gs.getD i [])) ns.length∧b5x n (-1) ns=true:=by
 rw [b2p]at hw
 by_cases ha:∀i,i < ns.length→¬d0i n ns i
 ·have ho:=(d2p n ns).2 ha
  refine⟨?_,ho⟩
  unfold a3n
  rw [if_neg (by simp [h,h2]),if_neg (by rw [ho];simp),b6n]
 ·rw [if_neg ha]at hw
  cases hw
end Go.Proofs.Ytdbngnlpafcogaa
