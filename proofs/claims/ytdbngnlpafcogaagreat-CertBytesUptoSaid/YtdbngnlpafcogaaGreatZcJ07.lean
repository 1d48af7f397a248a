/-
  Certificates: which are right (Check).
  The ring: size and quorum of a ring that is none.
  Certificates: a ring's quorum makes them, and checks them.
  The certificates' laws: what is made of shares is right (plain).
  The certificates' laws: shares that come one behind the other (plain).
  Certificates as bytes: what bytes are read as (plain).
  Batches of updates: the program's bytes.
  Certificates as bytes: the program's bytes.
  The document's bytes of bytes.
  Certificates as bytes: the document's bytes.
  The certificates' laws: what must be answered ahead of everything else.
  The certificates' laws: a certificate of one's own that is turned.
  A region that draws its order, as in Text5, whose last operations wait for all ahead of them: what the others need may be gone behind it.
-/
import Derived.Test.YtdbngnlpafcogaaGreatZcJ06
import Derived.Test.YtdbngnlpafcogaaGreatZcJ03
import Derived.Test.YtdbngnlpafcogaaGreatZcCt4
import Derived.Test.YtdbngnlpafcogaaGreatZcHb4
import Derived.Test.YtdbngnlpafcogaaGreatZcJ05
import Derived.Test.YtdbngnlpafcogaaGreatZcJ02
import Derived.Test.YtdbngnlpafcogaaGreatZcJ00
set_option maxRecDepth 100000
namespace Go.Proofs.YtdbngnlpafcogaaGreat
open Go.RowKit Go.Mem Go.Txt
theorem sigsT5:SliceT Tryz.prog 54 32 64 64 (ab (a0m 64)):=⟨Tryz.underlying54,by kernel_rfl,rfl,by omega⟩
theorem e2w:SliceT Tryz.prog 53 3 1 8 (.int .i64 0):=⟨Tryz.underlying53,by kernel_rfl,rfl,by omega⟩
def c9a(n:Nat):Int→List Int→Bool
 | _,[]=>true
 | last,i :: l=>decide (last < i) && decide (i < n) && c9a n i l
theorem d2y{n:Nat}:∀(l:List Int) (last:Int),c9a n last l=true→∀i∈l,last < i∧i < n
 | [],_,_,_,h=>by cases h
 | x :: l,last,h,i,hi=>by
   simp only [c9a,Bool.and_eq_true,decide_eq_true_eq]at h;rcases List.mem_cons.1 hi with rfl | hi
   ·exact h.1
   ·have:=d2y l x h.2 i hi;exact⟨by omega,this.2⟩
theorem b0p{u:World}{g o:Nat}{xs:List Value}(h:u.rangeAt g o xs){j:Nat}{v:Value}(hj:xs[j]?=some v):u.cell? ⟨g,o + j,none⟩=some v:=h j v hj
def a6o(q n:Nat)(ok:Nat→List UInt8→Bool)(ns:List Int)(gs:List (List UInt8)):Int:=
 if ns.length≠q∨gs.length≠q then 80 else if c9a n (-1) ns=false then 81 else if∀k,k < ns.length→ok (ns.getD k 0).toNat (gs.getD k [])=true then 0 else 60
structure CK (g5:Nat) (S:List Nat) (w:World) (J:World→Prop) (ns:List Int) (gs:List (List UInt8)) (body:List UInt8) (bw sv gv:Value) (u:World):Prop where
 j:J u
 k:Kept S w u
 b:Blk u g5 56 #[bw,sv,gv]
 s:Rd u 1 sv ns.length (iv ns)
 g:Rd u 64 gv gs.length (gs.flatMap bv)
 m:a1o body bw u
theorem CK.step{g5:Nat}{S:List Nat}{w:World}{J:World→Prop}{ns:List Int}{gs:List (List UInt8)}{body:List UInt8}{bw sv gv:Value}
 (hR:∀u u' s v n xs,0 < s→J u→Kept S u u'→Rd u s v n xs→Rd u' s v n xs) (hg:g5∉S) (u u':World) (h:CK g5 S w J ns gs body bw sv gv u) (hk:Kept S u u') (hj:J u'):CK g5 S w J ns gs body bw sv gv u':=
 ⟨hj,h.k.trans' hk,h.b.kept hk hg,hR _ _ _ _ _ _ (by omega) h.j hk h.s,hR _ _ _ _ _ _ (by omega) h.j hk h.g,hR _ _ _ _ _ _ (by omega) h.j hk h.m⟩
def e6a(b s g:Value):Value:=.agg #[b,s,g]
theorem c7v{ns:List Int}{k:Nat}(h:k < ns.length):iv ns=iv (ns.take k) ++ ([.int .i64 (ns.getD k 0)] ++ iv (ns.drop (k + 1))):=by
 have e:ns=ns.take k ++ (ns.getD k 0 :: ns.drop (k + 1)):=by
  rw [List.getD_eq_getElem?_getD,List.getElem?_eq_getElem h];simp
 conv=>lhs;rw [e]
 simp [iv]
theorem c0t{gs:List (List UInt8)}{k:Nat}(h:k < gs.length)(hl:∀g∈gs,g.length=64):∃pre post,gs.flatMap bv=pre ++ (bv (gs.getD k []) ++ post)∧pre.length=k * 64:=by
 have e:gs=gs.take k ++ (gs.getD k [] :: gs.drop (k + 1)):=by
  rw [List.getD_eq_getElem?_getD,List.getElem?_eq_getElem h];simp
 refine⟨(gs.take k).flatMap bv,(gs.drop (k + 1)).flatMap bv,?_,?_⟩
 ·conv=>lhs;rw [e]
  rw [List.flatMap_append,List.flatMap_cons]
 ·have:∀m,m≤gs.length→((gs.take m).flatMap bv).length=m * 64:=by
   intro m
   induction m with
   | zero=>simp
   | succ m ih=>
     intro hm;rw [List.take_succ_eq_append_getElem (by omega),List.flatMap_append,List.length_append,ih (by omega)];simp [hl _ (List.getElem_mem _)];omega
  exact this k (by omega)
theorem c5z{gs:List (List UInt8)}{k:Nat}(h:k < gs.length)(hl:∀g∈gs,g.length=64):(gs.getD k []).length=64:=by
 rw [List.getD_eq_getElem?_getD,List.getElem?_eq_getElem h];exact hl _ (List.getElem_mem _)
theorem e0e{ns:List Int}{k:Nat}(h:k < ns.length):ns.drop k=ns.getD k 0 :: ns.drop (k + 1):=by
 rw [List.getD_eq_getElem?_getD,List.getElem?_eq_getElem h];simp
set_option maxHeartbeats 3200000 in
theorem d0q{ns:List Int}{gs:List (List UInt8)}{body:List UInt8}{rp:Addr}{q n:Nat}{tag:UInt8}{S:List Nat}{J:World→Prop}{ok:Nat→List UInt8→Bool}(bw sv gv:Value)(w:World)
 (hb:a1o body bw w) (hs:Rd w 1 sv ns.length (iv ns)) (hg:Rd w 64 gv gs.length (gs.flatMap bv)) (hgl:∀g∈gs,g.length=64) (hn7:n≤7) (hJ0:J w) (hlen:ns.length≤140737488351900) (hlen2:gs.length≤140737488351900) (hq7:q≤7)
 (hSlt:∀k∈S,k < w.heap.size) (hJ:∀u u' X,(∀k∈X,w.heap.size≤k)→J u→Kept X u u'→J u') (hR:∀u u' s v n xs,0 < s→J u→Kept S u u'→Rd u s v n xs→Rd u' s v n xs)
 (co:∀(i:Nat) sig u v,i < n→sig.length=64→a1o body v u→J u→Calls Tryz.prog 145 #[.pointer (some rp),.int .i64 (i:Int),.int .u8 (tag.toNat:Int),v,ab sig] u fun e w'=>e= .returned (.bool (ok i sig))∧J w'∧Kept S u w')
 (cq:∀u,J u→Calls Tryz.prog 146 #[.pointer (some rp)] u fun e w'=>e= .returned (.int .i64 (q:Int))∧w'=u)
 (cz:∀u,J u→Calls Tryz.prog 148 #[.pointer (some rp)] u fun e w'=>e= .returned (.int .i64 (n:Int))∧w'=u) :
 Calls Tryz.prog 79 #[.pointer (some rp),.int .u8 (tag.toNat:Int),e6a bw sv gv] w fun e w'=>e= .returned (.int .i64 (a6o q n ok ns gs))∧J w'∧Kept S w w':=by
 replace hSlt:=hjd hSlt;replace hJ:=hjd hJ;replace hR:=hjd hR;replace co:=hjd co;replace cq:=hjd cq;replace cz:=hjd cz;replace hgl:=hjd hgl;replace hb:=hjd hb;replace hJ0:=hjd hJ0;replace hn7:=hjd hn7;replace hq7:=hjd hq7;have hbS:=hb.out;obtain⟨BA,bc,rfl,e1⟩:=hbS;clear e1;obtain⟨SA,sc,rfl,e1⟩:=id hs;clear e1;obtain⟨GA,gc,rfl,e1⟩:=id hg;clear e1;replace hs:=hjd hs;replace hg:=hjd hg;unfold e6a;obtain⟨R,hRes⟩:∃R,a6o q n ok ns gs=R:=⟨_,rfl⟩;replace hRes:=hjd hRes;rw [hRes.out];go_enter Tryz.func79,Tryz.ntmps79;go_upto_region 1 with(first
  | ((with_reducible refine a0f 5 ?_);(refine a0q (o:=⟨some 5,_,_,_,_,_⟩) (v:=.agg #[.slice BA body.length bc,.slice SA ns.length sc,.slice GA gs.length gc]) rfl (.tmp 2) rfl rfl ?_);intro g5 w5 m5;have N5:=hjd (show g5∉S from fun h=>by have:=hSlt.out _ h;have:=m5.le;omega);have B5:=hjd (show Blk w5 g5 56 #[.slice BA body.length bc,.slice SA ns.length sc,.slice GA gs.length gc]from m5.blk);have K5:=hjd m5.kept;clear m5))
 have kd:=(Kept.refl [] w5).drew;replace B5:=hjd (B5.out.kept kd (by simp));replace K5:=hjd (K5.out.a0g kd);have J1:=hjd (hJ.out _ _ [] (by simp) hJ0.out K5.out);replace hs:=hjd (hs.out.a0k K5.out);replace hg:=hjd (hg.out.a0k K5.out);replace hb:=hjd (a1o.a0k hb.out K5.out);have q1:=B5.out.cell 1;have q2:=B5.out.cell 2;by_cases h1:ns.length=q
 ·have b1:((ns.length:Int) !=(q:Int))=false:=by simp [h1]
  by_cases h2:gs.length=q
  ·have b2:((gs.length:Int) !=(q:Int))=false:=by simp [h2]
   replace h1:=hjd h1;replace h2:=hjd h2;refine Txt.a1k [4,12] (fun u=>Blk u g5 56 #[.slice BA body.length bc,.slice SA ns.length sc,.slice GA gs.length gc]) [[_,_,_,_,_,_,_,_],[_,_,_,_,_,_,_,_],[_,_]] (by kernel_rfl) (by kernel_rfl) rfl B5.out (Txt.a0e ?_);go_wp2_with (first
    | (go_at_call 146;(with_reducible refine(cq.out _ J1.out).mono ?_);rintro e v19 ⟨rfl,rfl⟩))
   refine And.intro rfl (And.intro B5.out ?_);unfold Txt.a3j;go_wp2_with (first
    | (go_at_call 146;(with_reducible refine(cq.out _ J1.out).mono ?_);rintro e v27 ⟨rfl,rfl⟩))
   refine And.intro rfl (And.intro B5.out ?_);unfold Txt.a3j;go_wp2_with fail;refine And.intro rfl (And.intro B5.out (Txt.a0w ⟨⟨by kernel_rfl,?_⟩,?_⟩))
   ·intro j hj o ho hw;have hj2:j=4∨j=12:=by simpa using hj
    rcases hj2 with rfl | rfl <;> cases ho
    ·exact⟨16,rfl,fun u hu=>a1d rfl (fun w=>by kernel_rfl) rfl (hu.cell 1)⟩
    ·exact⟨24,rfl,fun u hu=>a1d rfl (fun w=>by kernel_rfl) rfl (hu.cell 2)⟩
   have h12:=hjd (show ¬(ns.length≠q∨gs.length≠q)from fun h=>h.elim (fun h=>h h1.out) fun h=>h h2.out);have hl7:=hjd (show ns.length≤7 by have:=h1.out;have:=hq7.out;omega);clear b1 b2 h1;have C1:=hjd (show CK g5 S w J ns gs body (.slice BA body.length bc) (.slice SA ns.length sc) (.slice GA gs.length gc) w5.drew from⟨J1.out,K5.out.of0,B5.out,hs.out,hg.out,hb.out⟩);clear J1 K5 B5 hs hg hb;go_upto_region 5 with(first
    | ((with_reducible refine a0f 31 ?_);refine a0p (by kernel_rfl) (a1d rfl (fun w=>by kernel_rfl) rfl (C1.out.b.cell 1)) ?_))
   go_loopg [7,33] ns.length (fun f x7 x33 wk=>∃(j:Nat) (last:Int),j≤ns.length∧f + j=ns.length∧x33= .int .i64 (j:Int)∧x7= .int .i64 last∧Hid (-1≤last)∧Hid (c9a n (-1) ns=c9a n last (ns.drop j))∧Hid (CK g5 S w J ns gs body (.slice BA body.length bc) (.slice SA ns.length sc) (.slice GA gs.length gc) wk))
   case atStart=>exact⟨0,-1,Nat.zero_le _,by omega,rfl,rfl,hjd (by omega),hjd rfl,C1⟩
   case round=>
    obtain⟨j,last,hj,hf,rfl,rfl,hl1,ho,CC⟩:=hrel;by_cases hlt:j < ns.length
    ·obtain⟨i,hi⟩:∃i,ns.getD j 0=i:=⟨_,rfl⟩;have hd:=e0e hlt;have hsp:=c7v hlt;rw [hi]at hd hsp;have ho2:=ho.out;rw [hd]at ho2;obtain⟨sb,so,sc2,e,e2,e3⟩:=CC.out.s.at_ (by omega);clear e2 e3
     cases e
     have E:=Rd.elem (i:=j) CC.out.s hsp (by simp [iv];omega) (by omega);have q0:=b0p E (j:=0) rfl;rw [Nat.add_zero,Nat.mul_one]at q0;clear E hsp hd hi;replace ho2:=hjd ho2;go_upto_region 7 with(first
      | ((with_reducible refine a0f 35 ?_);refine a4t (o:=⟨some 35,_,_,_,_,_⟩) e2w rfl (.tmp 31) (.tmp 33) rfl rfl rfl hlt ?_))
     by_cases hle:i≤last
     ·have e81:R=81:=by
       have h2:c9a n (-1) ns=false:=by rw [ho2.out];simp [c9a,show ¬last < i by omega]
       rw [←hRes.out];unfold a6o;rw [if_neg h12.out,if_pos h2]
      go_wp2_with fail
      go_ret;exact⟨by rw [e81];rfl,CC.out.j,CC.out.k⟩
     ·by_cases hge:(n:Int)≤i
      ·have e81:R=81:=by
        have h2:c9a n (-1) ns=false:=by rw [ho2.out];simp [c9a,show ¬i < n by omega]
        rw [←hRes.out];unfold a6o;rw [if_neg h12.out,if_pos h2]
       go_wp2_with (first
        | (go_at_call 148;(with_reducible refine(cz.out _ CC.out.j).mono ?_);rintro e v43 ⟨rfl,rfl⟩))
       go_ret;exact⟨by rw [e81];rfl,CC.out.j,CC.out.k⟩
      ·have ho3:=hjd (show c9a n (-1) ns=c9a n i (ns.drop (j + 1))from by rw [ho2.out];simp [c9a,show last < i by omega,show i < n by omega]);have hli:=hjd (show -1≤i by have:=hl1.out;omega);clear ho ho2 hl1;go_wp2_with (first
        | (go_at_call 148;(with_reducible refine(cz.out _ CC.out.j).mono ?_);rintro e v43 ⟨rfl,rfl⟩))
       go_roundg (ns.length - (j + 1));case measure=>omega
       case rel=>exact⟨j + 1,i,by omega,by omega,by go_num,rfl,hli,ho3,CC⟩
    ·obtain rfl:j=ns.length:=by omega
     have hord:=hjd (show c9a n (-1) ns=true from by rw [ho.out,List.drop_length];rfl);clear ho hl1 hf hj hlt;go_upto_region 12 with(first
      | ((with_reducible refine a0f 49 ?_);refine a0p (by kernel_rfl) (a1d rfl (fun w=>by kernel_rfl) rfl (CC.out.b.cell 1)) ?_))
     go_loopg [51] ns.length (fun f x51 wk=>∃k:Nat,k≤ns.length∧f + k=ns.length∧x51= .int .i64 (k:Int)∧Hid (∀i,i < k→ok (ns.getD i 0).toNat (gs.getD i [])=true)∧Hid (CK g5 S w J ns gs body (.slice BA body.length bc) (.slice SA ns.length sc) (.slice GA gs.length gc) wk))
     case atStart=>exact⟨0,Nat.zero_le _,by omega,rfl,hjd (by simp),CC⟩
     case round=>
      clear CC;obtain⟨k,hk,hf,rfl,ha,CC⟩:=hrel;by_cases hlt:k < ns.length
      ·have hgk:=hjd (show k < gs.length by have:=h12.out;omega);obtain⟨m,hi,hm⟩:∃m:Nat,ns.getD k 0=(m:Int)∧m < n:=by
        have hmem:ns.getD k 0∈ns:=by rw [List.getD_eq_getElem?_getD,List.getElem?_eq_getElem hlt];exact List.getElem_mem _
        have:=d2y ns (-1) hord.out _ hmem;exact⟨(ns.getD k 0).toNat,by omega,by omega⟩
       obtain⟨sg,hsg⟩:∃sg,gs.getD k []=sg:=⟨_,rfl⟩;have hsp:=c7v hlt;obtain⟨pre,post,hp,hpl⟩:=c0t hgk.out hgl.out;have hl64:=c5z hgk.out hgl.out;rw [hi]at hsp;rw [hsg]at hp hl64;have hk1:=hjd (show ok (ns.getD k 0).toNat (gs.getD k [])=ok m sg from by rw [hi,hsg];rfl);obtain⟨sb,so,sc2,e,e2,e3⟩:=CC.out.s.at_ (by omega);clear e2 e3
       cases e
       obtain⟨gb,go,gc2,e,e2,e3⟩:=CC.out.g.at_ (by have:=hgk.out;omega);clear e2 e3
       cases e
       have E:=Rd.elem (i:=k) CC.out.s hsp (by simp [iv];omega) (by omega);have q0:=b0p E (j:=0) rfl;rw [Nat.add_zero,Nat.mul_one]at q0;clear E hsp hi hsg;replace hl64:=hjd hl64;replace hp:=hjd hp;replace hpl:=hjd hpl;replace hm:=hjd hm;go_upto_region 14 with(first
        | ((with_reducible refine a0f 54 ?_);refine a4t (o:=⟨some 54,_,_,_,_,_⟩) e2w rfl (.tmp 49) (.tmp 51) rfl rfl rfl hlt ?_))
       clear q0;have kd:=(Kept.refl [] wr).drew;replace CC:=hjd (CC.out.step hR.out N5.out _ _ kd.of0 (hJ.out _ _ [] (by simp) CC.out.j kd));clear kd;have E:=hjd (Rd.elem (i:=k) CC.out.g hp.out hpl.out (by have:=hgk.out;omega));refine Txt.a1k [] (fun _=>True) [[_,_,_,_,_,_,_,_,_,_,_],[_]] (by kernel_rfl) (by kernel_rfl) rfl trivial (Txt.a0e ?_);go_wp2_with (first
        | ((with_reducible refine a0f 60 ?_);refine a0p (by kernel_rfl) (a1d rfl (fun w=>by kernel_rfl) rfl (CC.out.b.cell 0)) ?_)
        | ((with_reducible refine a0f 62 ?_);refine a0p (by kernel_rfl) (a1d rfl (fun w=>by kernel_rfl) rfl (CC.out.b.cell 2)) ?_)
        | ((with_reducible refine a0f 64 ?_);refine a4t (o:=⟨some 64,_,_,_,_,_⟩) sigsT5 (by kernel_rfl) (.tmp 62) (.tmp 63) rfl rfl rfl hgk.out ?_)
        | ((with_reducible refine a0f 65 ?_);refine a1i (o:=⟨some 65,_,_,_,_,_⟩) (cs:=bv sg) Q.b7e (by kernel_rfl) (.tmp 64) rfl rfl E.out (by simpa using hl64.out) ?_)
        | (go_at_call 145;(with_reducible refine(co.out m sg _ _ hm.out hl64.out CC.out.m CC.out.j).mono ?_);rintro e v66 ⟨rfl,Jn,kn⟩;replace CC:=hjd (CC.out.step hR.out N5.out _ _ kn Jn);clear Jn kn E))
       refine And.intro rfl (And.intro trivial ?_);unfold Txt.a3j
       cases hok:ok m sg with
       | true=>
         replace hok:=hjd hok;go_wp2_with fail;refine And.intro rfl (And.intro trivial (Txt.a0w ⟨⟨by kernel_rfl,by simp⟩,?_⟩));go_wp2_with fail;go_roundg (ns.length - (k + 1));case measure=>omega
         case rel=>
          refine⟨k + 1,by omega,by omega,by go_num,hjd fun i hi=>?_,CC⟩;by_cases hik:i=k
          ·rw [hik,hk1.out];exact hok.out
          ·exact ha.out i (by omega)
       | false=>
         replace hok:=hjd hok;have e60:R=60:=by
          have h2:¬∀k,k < ns.length→ok (ns.getD k 0).toNat (gs.getD k [])=true:=fun h=>by
           have:=h k hlt;rw [hk1.out,hok.out]at this
           cases this
          rw [←hRes.out];unfold a6o;rw [if_neg h12.out,if_neg (by rw [hord.out];simp),if_neg h2]
         go_wp2_with fail
         refine And.intro rfl (And.intro trivial (Txt.a0w ⟨⟨by kernel_rfl,by simp⟩,?_⟩));go_wp2_with fail;go_ret;exact⟨by rw [e60];rfl,CC.out.j,CC.out.k⟩
      ·obtain rfl:k=ns.length:=by omega
       have e0:R=0:=by rw [←hRes.out];unfold a6o;rw [if_neg h12.out,if_neg (by rw [hord.out];simp),if_pos ha.out]
       clear hf hk hlt;go_wp2_with fail;go_ret;exact⟨by rw [e0];rfl,CC.out.j,CC.out.k⟩
  ·have b2:((gs.length:Int) !=(q:Int))=true:=by simpa using fun h=>h2 (by omega)
   replace h1:=hjd h1;replace h2:=hjd h2;refine Txt.a1k [4,12] (fun u=>Blk u g5 56 #[.slice BA body.length bc,.slice SA ns.length sc,.slice GA gs.length gc]) [[_,_,_,_,_,_,_,_],[_,_,_,_,_,_,_,_],[_,_]] (by kernel_rfl) (by kernel_rfl) rfl B5.out (Txt.a0e ?_);go_wp2_with (first
    | (go_at_call 146;(with_reducible refine(cq.out _ J1.out).mono ?_);rintro e v19 ⟨rfl,rfl⟩))
   refine And.intro rfl (And.intro B5.out ?_);unfold Txt.a3j;go_wp2_with (first
    | (go_at_call 146;(with_reducible refine(cq.out _ J1.out).mono ?_);rintro e v27 ⟨rfl,rfl⟩))
   refine And.intro rfl (And.intro B5.out ?_);unfold Txt.a3j;go_wp2_with fail;refine And.intro rfl (And.intro B5.out (Txt.a0w ⟨⟨by kernel_rfl,?_⟩,?_⟩))
   ·intro j hj o ho hw;have hj2:j=4∨j=12:=by simpa using hj
    rcases hj2 with rfl | rfl <;> cases ho
    ·exact⟨16,rfl,fun u hu=>a1d rfl (fun w=>by kernel_rfl) rfl (hu.cell 1)⟩
    ·exact⟨24,rfl,fun u hu=>a1d rfl (fun w=>by kernel_rfl) rfl (hu.cell 2)⟩
   go_wp2_with fail
   go_ret;have e80:R=80:=by rw [←hRes.out];unfold a6o;rw [if_pos (.inr h2.out)]
   exact⟨by rw [e80];rfl,J1.out,K5.out.of0⟩
 ·have b1:((ns.length:Int) !=(q:Int))=true:=by simpa using fun h=>h1 (by omega)
  replace h1:=hjd h1;refine Txt.a1k [4,12] (fun u=>Blk u g5 56 #[.slice BA body.length bc,.slice SA ns.length sc,.slice GA gs.length gc]) [[_,_,_,_,_,_,_,_],[_,_,_,_,_,_,_,_],[_,_]] (by kernel_rfl) (by kernel_rfl) rfl B5.out (Txt.a0e ?_);go_wp2_with (first
   | (go_at_call 146;(with_reducible refine(cq.out _ J1.out).mono ?_);rintro e v19 ⟨rfl,rfl⟩))
  refine And.intro rfl (And.intro B5.out ?_);unfold Txt.a3j;go_wp2_with (first
   | (go_at_call 146;(with_reducible refine(cq.out _ J1.out).mono ?_);rintro e v27 ⟨rfl,rfl⟩))
  refine And.intro rfl (And.intro B5.out ?_);unfold Txt.a3j;go_wp2_with fail;refine And.intro rfl (And.intro B5.out (Txt.a0w ⟨⟨by kernel_rfl,?_⟩,?_⟩))
  ·intro j hj o ho hw;have hj2:j=4∨j=12:=by simpa using hj
   rcases hj2 with rfl | rfl <;> cases ho
   ·exact⟨16,rfl,fun u hu=>a1d rfl (fun w=>by kernel_rfl) rfl (hu.cell 1)⟩
   ·exact absurd (hw:Region.wanted _ _=true) (by rw [show Region.wanted _ _=false from by kernel_rfl];simp)
  go_wp2_with fail
  go_ret;have e80:R=80:=by rw [←hRes.out];unfold a6o;rw [if_pos (.inl h1.out)]
  exact⟨by rw [e80];rfl,J1.out,K5.out.of0⟩
end Go.Proofs.YtdbngnlpafcogaaGreat
namespace Go.Proofs.YtdbngnlpafcogaaGreat
open Go.RowKit Go.Mem Go.Txt
end Go.Proofs.YtdbngnlpafcogaaGreat
namespace Go.Proofs.YtdbngnlpafcogaaGreat
open Go.RowKit Go.Mem Go.Txt
set_option maxHeartbeats 3200000 in
theorem e1d{w:World}{r b:Nat}{kv:Value}{keys:List (List UInt8)}{D:DU}(h:Rg w r kv keys b D)(i:Int)(hi:i < 0∨(keys.length:Int)≤i)(tv mv:Value)(SG:List UInt8):Calls Tryz.prog 145 #[.pointer (some ⟨r,0,none⟩),.int .i64 i,tv,mv,ab SG] w fun e w'=>e= .returned (.bool false)∧Kept [] w w':=by
 have H:=hjd h;clear h;by_cases h:i < 0
 ·go_enter Tryz.func145,Tryz.ntmps145;go_wp2_with (first
   | ((with_reducible refine a0f 9 ?_);(refine a0q (o:=⟨some 9,_,_,_,_,_⟩) (v:=ab SG) rfl (.tmp 4) rfl rfl ?_);intro g9 w9 m9;have KK:=hjd m9.kept;clear m9))
  go_ret;exact⟨rfl,KK.out⟩
 ·have h2:(keys.length:Int)≤i:=by omega
  clear hi;go_enter Tryz.func145,Tryz.ntmps145;go_wp2_with (first
   | ((with_reducible refine a0f 9 ?_);(refine a0q (o:=⟨some 9,_,_,_,_,_⟩) (v:=ab SG) rfl (.tmp 4) rfl rfl ?_);intro g9 w9 m9;have KK:=hjd m9.kept;replace H:=hjd (H.out.kept m9.kept);clear m9)
   | (go_at_call 148;(with_reducible refine(a6h H.out).mono ?_);rintro e v ⟨rfl,rfl⟩))
  go_ret;exact⟨rfl,KK.out⟩
noncomputable def okR (keys:List (List UInt8)) (tag:UInt8) (body:List UInt8) (i:Nat) (sig:List UInt8):Bool:=decide (i < keys.length) && okV (keys.getD i []) sig (a5o tag body)
def RgJ(r b:Nat)(kv:Value)(keys:List (List UInt8))(u:World):Prop:=∃D,Rg u r kv keys b D
theorem Rg.blt{w:World}{r b:Nat}{kv:Value}{keys:List (List UInt8)}{D:DU}(h:Rg w r kv keys b D):b < w.heap.size:=by
 obtain⟨n,hn⟩:=h.map;exact hn.lt
theorem RgJ.far{w u u':World}{r b:Nat}{kv:Value}{keys:List (List UInt8)}{X:List Nat}(h0:RgJ r b kv keys w)(hX:∀k∈X,w.heap.size≤k)(h:RgJ r b kv keys u)(hk:Kept X u u'):RgJ r b kv keys u':=by
 obtain⟨D0,h0⟩:=h0;obtain⟨D,h⟩:=h;refine⟨D,h.blk.kept hk (fun hm=>by have:=hX _ hm;have:=h0.blk.lt;omega),h.rows.kept hk (Rd.old h0.rows (by omega) hX),h.len,h.few,?_,h.seen,h.isMap⟩;obtain⟨n,hn⟩:=h.map;exact⟨n,hn.kept hk (fun hm=>by have:=hX _ hm;have:=h0.blt;omega)⟩
theorem RgJ.rd{u u':World}{r b s n:Nat}{kv v:Value}{keys:List (List UInt8)}{xs:List Value}(hs:0 < s)(h:RgJ r b kv keys u)(hk:Kept [b] u u')(hr:Rd u s v n xs):Rd u' s v n xs:=by
 obtain⟨D,h⟩:=h;obtain⟨m,hm⟩:=h.map;refine hr.kept hk fun hn k hk2 hm2=>?_
 refine Rd.c8n hr hm ?_ hn k hk2 (List.mem_singleton.1 hm2);rw [hr.len];exact Nat.mul_pos hn hs
theorem openR{u:World}{r b:Nat}{kv:Value}{keys:List (List UInt8)}(tag:UInt8)(body:List UInt8)(hbl:body.length≤140737488351900)(i:Nat)(sig:List UInt8)(hs:sig.length=64)(v:Value)(hv:a1o body v u)(h:RgJ r b kv keys u) :
 Calls Tryz.prog 145 #[.pointer (some ⟨r,0,none⟩),.int .i64 (i:Int),.int .u8 (tag.toNat:Int),v,ab sig] u fun e w'=>e= .returned (.bool (okR keys tag body i sig))∧RgJ r b kv keys w'∧Kept [b] u w':=by
 obtain⟨D,h⟩:=h;by_cases hi:i < keys.length
 ·refine(d7z tag body h hi hs v hv hbl).mono ?_;rintro e w' ⟨rfl,D',h',k⟩;exact⟨by unfold okR;rw [decide_eq_true hi];rfl,⟨D',h'⟩,k⟩
 ·refine(e1d h i (.inr (by omega)) _ v sig).mono ?_;rintro e w' ⟨rfl,k⟩;exact⟨by unfold okR;rw [decide_eq_false hi];rfl,⟨D,h.kept k⟩,Kept.of0 k⟩
def c4a(n:Nat):Nat:=2 * (n / 3) + 1
theorem quoR{u:World}{r b:Nat}{kv:Value}{keys:List (List UInt8)}(h:RgJ r b kv keys u):Calls Tryz.prog 146 #[.pointer (some ⟨r,0,none⟩)] u fun e w'=>e= .returned (.int .i64 (c4a keys.length:Int))∧w'=u:=by
 obtain⟨D,h⟩:=h;refine(d1d h).mono ?_;rintro e w' ⟨rfl,rfl⟩;exact⟨by unfold c4a;first | rfl | (congr 2;omega),rfl⟩
theorem sizeR{u:World}{r b:Nat}{kv:Value}{keys:List (List UInt8)}(h:RgJ r b kv keys u):Calls Tryz.prog 148 #[.pointer (some ⟨r,0,none⟩)] u fun e w'=>e= .returned (.int .i64 (keys.length:Int))∧w'=u:=by
 obtain⟨D,h⟩:=h;exact a6h h
theorem b3m{w:World}{r b:Nat}{kv:Value}{keys:List (List UInt8)}(h:RgJ r b kv keys w)(tag:UInt8){ns:List Int}{gs:List (List UInt8)}{body:List UInt8}(bw sv gv:Value)(hb:a1o body bw w)(hbl:body.length≤140737488351900)(hs:Rd w 1 sv ns.length (iv ns))(hg:Rd w 64 gv gs.length (gs.flatMap bv))(hgl:∀g∈gs,g.length=64)(hlen:ns.length≤140737488351900)(hlen2:gs.length≤140737488351900) :
 Calls Tryz.prog 79 #[.pointer (some ⟨r,0,none⟩),.int .u8 (tag.toNat:Int),e6a bw sv gv] w fun e w'=>e= .returned (.int .i64 (a6o (c4a keys.length) keys.length (okR keys tag body) ns gs))∧RgJ r b kv keys w'∧Kept [b] w w':=by
 obtain⟨D,h0⟩:=id h;exact d0q bw sv gv w hb hs hg hgl h0.few h hlen hlen2 (by unfold c4a;have:=h0.few;omega) (by simpa using h0.blt) (fun u u' X hX hj hk=>RgJ.far h hX hj hk) (fun u u' s v n xs hs hj hk hr=>RgJ.rd hs hj hk hr)
  (fun i sig u v _ hs hv hj=>openR tag body hbl i sig hs v hv hj) (fun u hj=>quoR hj) (fun u hj=>sizeR hj)
noncomputable def c0h (keys:List (List UInt8)) (tag:UInt8) (body:List UInt8) (sh:List Shr):Nat→Option Nat:=a8c (okR keys tag body) sh sh.length
theorem d5v{w:World}{r b:Nat}{kv:Value}{keys:List (List UInt8)}(h:RgJ r b kv keys w)(tag:UInt8){sh:List Shr}{body:List UInt8}(bw:Value){SA:Option Addr}{sc:Nat}
 (hb:a1o body bw w) (hbl:body.length≤140737488351900) (hs:Rd w 65 (.slice SA sh.length sc) sh.length (sh.flatMap shC)) (hsl:∀p∈sh,p.2.length=64) (hm:sh.length≤1000) :
 Calls Tryz.prog 77 #[.pointer (some ⟨r,0,none⟩),.int .u8 (tag.toNat:Int),bw,.slice SA sh.length sc] w fun e w'=>RgJ r b kv keys w'∧Kept [b] w w'∧
  ((d5n (c0h keys tag body sh) < c4a keys.length∧e= .returned (.tuple #[.agg #[.slice none 0 0,.slice none 0 0,.slice none 0 0],.int .i64 80]))∨
   (c4a keys.length≤d5n (c0h keys tag body sh)∧∃b2 s2 g2,e= .returned (.tuple #[.agg #[b2,s2,g2],.int .i64 0])∧a1o body b2 w'∧
     Rd w' 1 s2 (a6b (c0h keys tag body sh) (c4a keys.length) 7).length (iv ((a6b (c0h keys tag body sh) (c4a keys.length) 7).map fun(k:Nat)=>(k:Int)))∧Rd w' 64 g2 (a6b (c0h keys tag body sh) (c4a keys.length) 7).length ((a6b (c0h keys tag body sh) (c4a keys.length) 7).flatMap fun k=>bv (b7x sh (c0h keys tag body sh) k)))):=by
 obtain⟨gs,os,hA⟩:∃gs os,0 < sh.length→SA=some ⟨gs,os,none⟩:=by
  by_cases h:0 < sh.length
  ·obtain⟨gs,os,c,e,_⟩:=hs.at_ h
   cases e
   exact⟨gs,os,fun _=>rfl⟩
  ·exact⟨0,0,fun h2=>absurd h2 h⟩
 obtain⟨D,h0⟩:=id h
 refine(d0k (S:=[b]) (J:=RgJ r b kv keys) (q:=c4a keys.length) (tag:=tag) (ok:=okR keys tag body) (rp:=some ⟨r,0,none⟩) bw w hb hbl hs hA hsl hm h (by simpa using h0.blt) (fun u u' X hX hj hk=>RgJ.far h hX hj hk) (fun u u' s v n xs hs hj hk hr=>RgJ.rd hs hj hk hr)
  (fun i sig u v _ hs hv hj=>openR tag body hbl i sig hs v hv hj) (fun u hj=>quoR hj)).mono ?_
 rintro e w' ⟨hj,k,⟨hc,rfl⟩ | ⟨_,hc,hr⟩⟩
 ·exact⟨hj,k,.inl ⟨hc.resolve_left (by simp),rfl⟩⟩
 ·exact⟨hj,k,.inr ⟨hc,hr⟩⟩
end Go.Proofs.YtdbngnlpafcogaaGreat
namespace Go.Proofs.YtdbngnlpafcogaaGreat
open Go.RowKit Go.Mem Go.Txt
end Go.Proofs.YtdbngnlpafcogaaGreat
namespace Go.Proofs.YtdbngnlpafcogaaGreat
open Go.RowKit Go.Mem Go.Txt
end Go.Proofs.YtdbngnlpafcogaaGreat
namespace Go.Proofs.YtdbngnlpafcogaaGreat
open Go.RowKit Go.Mem Go.Txt
structure Crt where
 bd:List UInt8
 ns:List Int
 gs:List (List UInt8)
def CL(c:Crt):Prop:=∀g∈c.gs,g.length=64
def rowC(c:Crt)(k:Nat):List UInt8:=be8 (b8l (c.ns.getD k 0)) ++ c.gs.getD k (a0m 64)
def a6a(c:Crt)(j:Nat):List UInt8:=(List.range j).flatMap (rowC c)
def b4c(c:Crt):List UInt8:=be8 c.bd.length ++ c.bd ++ be8 c.ns.length ++ a6a c c.ns.length
theorem e1a{c:Crt}(h:CL c)(k:Nat):(rowC c k).length=72:=by
 unfold rowC;rw [List.length_append,a2h,List.getD_eq_getElem?_getD]
 cases hq:c.gs[k]? with
 | none=>simp [a0m]
 | some g=>simp [h g (List.mem_of_getElem? hq)]
theorem a9v(c:Crt)(j:Nat):a6a c (j + 1)=a6a c j ++ rowC c j:=by simp [a6a,List.range_succ]
theorem b2j{c:Crt}(h:CL c):∀j,(a6a c j).length=j * 72
 | 0=>by simp [a6a]
 | j + 1=>by rw [a9v,List.length_append,b2j h j,e1a h];omega
theorem d0v{c:Crt}(h:CL c):(b4c c).length=16 + c.bd.length + c.ns.length * 72:=by
 unfold b4c;rw [List.length_append,List.length_append,List.length_append,a2h,a2h,b2j h];omega
def a2n:Nat→St→List Shr × Bool × St
 | 0,s=>([],false,s)
 | n + 1,s=>if s.1=0 then
    ((wrap64 ((a9r s).1:Int),(a8q 64 (a9r s).2).1) :: (a2n n (a8q 64 (a9r s).2).2).1,
      decide (65536 < (a9r s).1) || (a2n n (a8q 64 (a9r s).2).2).2.1,(a2n n (a8q 64 (a9r s).2).2).2.2)
   else([],false,s)
def a8g(s:St):List UInt8 × St:=a2a s
def d9a(s:St):List Shr × Bool × St:=a2n (a4l 65536 s).1 (a4l 65536 s).2
def a2p(s:St):Crt × Bool × St:=(⟨(a8g s).1,(d9a (a8g s).2).1.map (·.1),(d9a (a8g s).2).1.map (·.2)⟩,(d9a (a8g s).2).2.1,(d9a (a8g s).2).2.2)
def a3i(bs:List UInt8):Crt × Int:=
 if a8t (a2p (0,bs)).2.2≠0 then(⟨[],[],[]⟩,a8t (a2p (0,bs)).2.2)else if (a2p (0,bs)).2.1=true then(⟨[],[],[]⟩,13)else((a2p (0,bs)).1,0)
theorem a9b:∀(n:Nat) {s:St},s.1≠0→a2n n s=([],false,s)
 | 0,_,_=>rfl
 | n + 1,s,h=>by unfold a2n;rw [if_neg h]
theorem a7m{n:Nat}{s:St}(h:s.1=0):a2n (n + 1) s=((wrap64 ((a9r s).1:Int),(a8q 64 (a9r s).2).1) :: (a2n n (a8q 64 (a9r s).2).2).1,
 decide (65536 < (a9r s).1) || (a2n n (a8q 64 (a9r s).2).2).2.1,(a2n n (a8q 64 (a9r s).2).2).2.2):=by
 conv=>lhs;unfold a2n
 rw [if_pos h]
theorem c1o:∀(n:Nat) (s:St),∀u∈(a2n n s).1,u.2.length=64
 | 0,_=>by intro u hu;cases hu
 | n + 1,s=>by
   intro u hu;unfold a2n at hu;split at hu
   ·rcases List.mem_cons.1 hu with rfl | h
    ·exact a6x _ _
    ·exact c1o n _ u h
   ·cases hu
theorem b1q:∀(n:Nat) (s:St),(a2n n s).1.length≤n
 | 0,_=>by simp [a2n]
 | n + 1,s=>by
   unfold a2n;split
   ·have:=b1q n (a8q 64 (a9r s).2).2;simp only [List.length_cons];omega
   ·simp
theorem c8v:∀(n:Nat) (s:St),okS s→okS (a2n n s).2.2
 | 0,_,h=>h
 | n + 1,s,h=>by
   by_cases h0:s.1=0
   ·rw [a7m h0];exact c8v n _ (c0l (b5z h))
   ·rw [a9b _ h0];exact h
theorem d8q{s:St}(h:okS s):okS (a2p s).2.2:=c8v _ _ (b2y (b1w (b2y h)))
theorem e0r(s:St):CL (a2p s).1:=by
 intro g hg;obtain⟨p,hp,rfl⟩:=List.mem_map.1 hg;exact c1o _ _ p hp
theorem d7s(s:St):(a2p s).1.ns.length≤65536∧(a2p s).1.gs.length=(a2p s).1.ns.length:=by
 refine⟨?_,by simp [a2p]⟩;simp only [a2p,List.length_map];exact Nat.le_trans (b1q _ _) (a9k 65536 _)
theorem d1y(bs:List UInt8):CL (a3i bs).1:=by
 unfold a3i;split
 ·intro g hg;cases hg
 ·split
  ·intro g hg;cases hg
  ·exact e0r _
theorem c9t(bs:List UInt8):(a3i bs).1.ns.length≤65536∧(a3i bs).1.gs.length=(a3i bs).1.ns.length:=by
 unfold a3i;split
 ·exact⟨by simp,rfl⟩
 ·split
  ·exact⟨by simp,rfl⟩
  ·exact d7s _
def b6z(l:List Shr):List UInt8:=l.flatMap fun p=>be8 (b8l p.1) ++ p.2
theorem d2p{bd:List UInt8}{l:List Shr}:∀j,j≤l.length→a6a ⟨bd,l.map (·.1),l.map (·.2)⟩ j=b6z (l.take j)
 | 0,_=>by simp [a6a,b6z]
 | j + 1,hj=>by
   have e:b6z (l.take (j + 1))=b6z (l.take j) ++ (be8 (b8l (l[j]'(by omega)).1) ++ (l[j]'(by omega)).2):=by
    rw [List.take_succ_eq_append_getElem (by omega)];unfold b6z;rw [List.flatMap_append];simp
   rw [a9v,d2p j (by omega),e];congr 1;simp [rowC,List.getD_eq_getElem?_getD,show j < l.length by omega]
theorem b8i:∀(n:Nat) (s:St),(a2n n s).2.2.1=0→(a2n n s).2.1=false→s.1=0∧(a2n n s).1.length=n∧s.2=b6z (a2n n s).1 ++ (a2n n s).2.2.2
 | 0,s,h,_=>⟨h,rfl,by simp [a2n,b6z]⟩
 | n + 1,s,h,hf=>by
   by_cases h0:s.1=0
   ·have e:=a7m (n:=n) h0;rw [e]at h hf ⊢
    dsimp only at h hf ⊢
    generalize hb:a9r s=Bn at *;generalize hd:a8q 64 Bn.2=D at *;rw [Bool.or_eq_false_iff]at hf;obtain⟨d0,dl,d2⟩:=b8i n D.2 h hf.2;have hD:=d4b (n:=64) (s:=Bn.2) (by rw [hd];exact d0);have hB:=c3p (s:=s) (by rw [hb];exact hD.1);rw [hd]at hD;rw [hb]at hB;have hv:¬(65536 < Bn.1):=of_decide_eq_false hf.1;have hver:b8l (wrap64 (Bn.1:Int))=Bn.1:=by
     have e1:wrap64 (Bn.1:Int)=(Bn.1:Int):=IntWalk.wrap64_in _ (by omega);rw [e1];unfold b8l;omega
    refine⟨h0,by simp [dl],?_⟩;rw [hB.2,hD.2,d2];simp [b6z,hver]
   ·rw [a9b _ h0]at h;exact absurd h h0
theorem d0w{s:St}(h:(a2p s).2.2.1=0)(hf:(a2p s).2.1=false):s.1=0∧s.2=b4c (a2p s).1 ++ (a2p s).2.2.2:=by
 obtain⟨p0,pl,p2⟩:=b8i _ _ h hf;have hb:=c1w (most:=65536) (s:=(a8g s).2) p0;have ht:=b2z (n:=(a4l 1048576 s).1) (s:=(a4l 1048576 s).2) hb.1;have hn:=c1w (most:=1048576) (s:=s) ht.1;refine⟨hn.1,?_⟩;have e2:a6a (a2p s).1 (a2p s).1.ns.length=b6z (d9a (a8g s).2).1:=by
  have:=d2p (bd:=(a8g s).1) (l:=(d9a (a8g s).2).1) _ (Nat.le_refl _);rw [List.take_length]at this;have el:(a2p s).1.ns.length=(d9a (a8g s).2).1.length:=by simp [a2p]
  rw [el];exact this
 have e3:(a2p s).1.ns.length=(a4l 65536 (a8g s).2).1:=by
  have el:(a2p s).1.ns.length=(d9a (a8g s).2).1.length:=by simp [a2p]
  rw [el];exact pl
 have e4:(a2p s).1.bd.length=(a4l 1048576 s).1:=ht.2.2.2;unfold b4c;rw [e2,e3,e4];have q1:s.2=be8 (a4l 1048576 s).1 ++ (a4l 1048576 s).2.2:=hn.2;have q2:(a4l 1048576 s).2.2=(a8g s).1 ++ (a8g s).2.2:=ht.2.2.1;have q3:(a8g s).2.2=be8 (a4l 65536 (a8g s).2).1 ++ (a4l 65536 (a8g s).2).2.2:=hb.2;have q4:(a4l 65536 (a8g s).2).2.2=b6z (d9a (a8g s).2).1 ++ (a2p s).2.2.2:=p2;rw [q1,q2,q3,q4];simp [a2p]
theorem c4q{bs:List UInt8}(h:(a3i bs).2=0):b4c (a3i bs).1=bs:=by
 unfold a3i at h ⊢;by_cases hd:a8t (a2p (0,bs)).2.2≠0
 ·rw [if_pos hd]at h;exact absurd h hd
 ·rw [if_neg hd]at h ⊢;by_cases hf:(a2p (0,bs)).2.1=true
  ·rw [if_pos hf]at h
   cases h
  ·rw [if_neg hf];have hd2:a8t (a2p (0,bs)).2.2=0:=Decidable.not_not.1 hd;have hz:(a2p (0,bs)).2.2.1=0∧(a2p (0,bs)).2.2.2= []:=by
    unfold a8t at hd2;split at hd2
    ·rename_i h0
     split at hd2
     ·cases hd2
     ·rename_i hl
      exact⟨h0,List.eq_nil_of_length_eq_zero (by omega)⟩
    ·rename_i h0
     exact absurd hd2 h0
   obtain⟨_,p2⟩:=d0w hz.1 (by simpa using hf);rw [hz.2,List.append_nil]at p2;exact p2.symm
end Go.Proofs.YtdbngnlpafcogaaGreat
namespace Go.Proofs.YtdbngnlpafcogaaGreat
open Go.RowKit Go.Mem Go.Txt
theorem e2l{w:World}{g o n:Nat}{xs:List UInt8}(h:w.rangeAt g o (bv xs))(hn:xs.length=n):a1o xs (.slice (some ⟨g,o,none⟩) n n) w:=by
 unfold a1o;subst hn;exact d7k h rfl
end Go.Proofs.YtdbngnlpafcogaaGreat
namespace Go.Proofs.YtdbngnlpafcogaaGreat
open Go.RowKit Go.Mem Go.Txt
theorem d1o{gs:List (List UInt8)}{j:Nat}(h:j < gs.length)(hl:∀g∈gs,g.length=64){w:World}{g o c:Nat}(hr:Rd w 64 (.slice (some ⟨g,o,none⟩) gs.length c) gs.length (gs.flatMap bv)):w.rangeAt g (o + j * 64) (bv (gs.getD j (a0m 64))):=by
 obtain⟨pre,post,hp,hpl⟩:=c0t h hl;have e:gs.getD j (a0m 64)=gs.getD j []:=by rw [List.getD_eq_getElem?_getD,List.getD_eq_getElem?_getD,List.getElem?_eq_getElem h];rfl
 rw [e];exact Rd.elem (i:=j) hr hp hpl (by omega)
set_option maxHeartbeats 3200000 in
theorem b6k{bd:List UInt8}{ns:List Int}{gs:List (List UInt8)}(bw sv gv:Value)(w:World)(hb:a1o bd bw w)(hs:Rd w 1 sv ns.length (iv ns))(hg:Rd w 64 gv gs.length (gs.flatMap bv))(hl:∀g∈gs,g.length=64)(hbl:bd.length≤1048576)(hnl:ns.length≤1048576) :
 Calls Tryz.prog 24 #[.agg #[bw,sv,gv]] w fun e w'=>∃v',e= .returned v'∧a1o (b4c ⟨bd,ns,gs⟩) v' w'∧Kept [] w w':=by
 obtain⟨BA,bc,rfl,_⟩:=id hb;obtain⟨SA,sc,rfl,_⟩:=id hs;obtain⟨GA,gc,rfl,_⟩:=id hg;replace hb:=hjd hb;replace hs:=hjd hs;replace hg:=hjd hg;have hcl:=hjd (show CL ⟨bd,ns,gs⟩from hl);replace hl:=hjd hl;have ew:IntKind.u64.wrap (ns.length:Int)=(ns.length:Int):=by rw [IntKind.wrap_u64];omega
 have hrl:∀j,(a6a ⟨bd,ns,gs⟩ j).length=j * 72:=fun j=>b2j hcl.out j
 have cw:=hjd (fun u (h:a1o bd (.slice BA bd.length bc) u)=>b8n (.slice none 0 0) (.slice BA bd.length bc) [] bd u (Rd.nil _ _) h (by simp;omega));have cn:=hjd (fun u x (h:a1o (form bd) x u)=>b3k x (form bd) ns.length u h (by simp [form,a2h];omega) (by omega));go_enter Tryz.func24,Tryz.ntmps24;go_upto_region 1 with(first
  | ((with_reducible refine a0f 1 ?_);(refine a0q (o:=⟨some 1,_,_,_,_,_⟩) (v:=.agg #[.slice BA bd.length bc,.slice SA ns.length sc,.slice GA gs.length gc]) rfl (.tmp 0) rfl rfl ?_);intro g1 w1 m1;have B:=hjd (show Blk w1 g1 56 #[.slice BA bd.length bc,.slice SA ns.length sc,.slice GA gs.length gc]from m1.blk);have K:=hjd m1.kept;clear m1))
 have kd:=(Kept.refl [] w1).drew;replace B:=hjd (B.out.kept kd (by simp));replace K:=hjd (K.out.a0g kd);clear kd;refine Txt.a1k [4] (fun u=>Blk u g1 56 #[.slice BA bd.length bc,.slice SA ns.length sc,.slice GA gs.length gc]) [[_,_,_],[_,_,_,_,_],[_]] (by kernel_rfl) (by kernel_rfl) rfl B.out (Txt.a0e ?_);go_wp2_with (first
  | ((with_reducible refine a0f 8 ?_);refine a0p (v:=.slice BA bd.length bc) (by kernel_rfl) (a1d rfl (fun w=>by kernel_rfl) rfl (B.out.cell 0)) ?_)
  | (go_at_call 80;(with_reducible refine(cw.out _ (a1o.a0k hb.out K.out)).mono ?_);rintro e v9 ⟨x9,rfl,h9⟩;rw [List.nil_append]at h9;have R9:=hjd h9.rd;replace K:=hjd (K.out.a0g h9.kept);replace B:=hjd (B.out.kept h9.kept (by simp));obtain⟨NA,nc,rfl,_⟩:=h9.ow.shape;clear h9))
 refine And.intro rfl (And.intro B.out ?_);unfold Txt.a3j;go_wp2_with (first
  | ((with_reducible refine a0f 11 ?_);refine a0p (v:=.slice SA ns.length sc) (by kernel_rfl) (a1d rfl (fun w=>by kernel_rfl) rfl (B.out.cell 1)) ?_)
  | (go_at_call 63;(with_reducible refine(cn.out _ _ R9.out).mono ?_);rintro e v14 ⟨x14,rfl,h14⟩;have R:=hjd h14.rd;replace K:=hjd (K.out.a0g h14.kept);replace B:=hjd (B.out.kept h14.kept (by simp));clear h14))
 refine And.intro rfl (And.intro B.out ?_);unfold Txt.a3j;go_wp2_with fail;refine And.intro rfl (And.intro B.out (Txt.a0w ⟨⟨by kernel_rfl,?_⟩,?_⟩))
 ·intro j hj o ho hw;obtain rfl:j=4:=by simpa using hj
  cases ho
  exact⟨11,rfl,fun u hu=>a1d rfl (fun w=>by kernel_rfl) rfl (hu.cell 1)⟩
 clear R9;go_wp2_with (first
  | ((with_reducible refine a0f 16 ?_);refine a0p (v:=.slice SA ns.length sc) (by kernel_rfl) (a1d rfl (fun w=>by kernel_rfl) rfl (B.out.cell 1)) ?_))
 go_loopg [3,18] ns.length (fun f x3 x18 wk=>∃j:Nat,j≤ns.length∧f + j=ns.length∧x18= .int .i64 (j:Int)∧Hid (a1o (be8 bd.length ++ bd ++ be8 ns.length ++ a6a ⟨bd,ns,gs⟩ j) x3 wk)∧Hid (Kept [] v14 wk))
 case atStart=>exact⟨0,by omega,by omega,rfl,hjd (by have h:=R.out;simpa [form,a6a]using h),hjd (Kept.refl _ _)⟩
 case round=>
  clear R;obtain⟨j,hj,hf,rfl,R,KK⟩:=hrel;have RS:=R.out;obtain⟨XA,xc,rfl,_⟩:=RS;by_cases hlt:j < ns.length
  ·obtain⟨sb,so,sd,e,e2,e3⟩:=(hs.out.a0k (K.out.a0g KK.out)).at_ (by omega)
   cases e
   have q0:=e3 j (.int .i64 (ns.getD j 0)) (by simp [iv,List.getD_eq_getElem?_getD,List.getElem?_eq_getElem hlt]);clear e2 e3;have hacc:=hjd (show be8 bd.length ++ bd ++ be8 ns.length ++ a6a ⟨bd,ns,gs⟩ (j + 1)=be8 bd.length ++ bd ++ be8 ns.length ++ a6a ⟨bd,ns,gs⟩ j ++ (be8 (b8l (ns.getD j 0)) ++ gs.getD j (a0m 64))from by rw [a9v,←List.append_assoc];rfl)
   have hal:=hjd (show(be8 bd.length ++ bd ++ be8 ns.length ++ a6a ⟨bd,ns,gs⟩ j).length≤80000000 from by
    simp only [List.length_append,a2h,hrl];omega)
   generalize be8 bd.length ++ bd ++ be8 ns.length ++ a6a ⟨bd,ns,gs⟩ j=acc at *;have hx64:=c5y (ns.getD j 0);generalize ns.getD j 0=x0 at *
   have SG:=hjd (fun(h:j < gs.length)=>(show∃g o c,GA=some ⟨g,o,none⟩∧gc=c∧∀u,Kept [] w u→u.rangeAt g (o + j * 64) (bv (gs.getD j (a0m 64)))from by
    obtain⟨g,o,c,e,_⟩:=hg.out.at_ (by omega);obtain⟨rfl,rfl⟩:GA=some ⟨g,o,none⟩∧gc=c:=by simpa using e
    exact⟨g,o,_,rfl,rfl,fun u hu=>d1o h hl.out (hg.out.a0k hu)⟩))
   have hsl:=hjd (show(gs.getD j (a0m 64)).length=64 from by
    rw [List.getD_eq_getElem?_getD]
    cases hq:gs[j]? with
    | none=>simp [a0m]
    | some g=>exact hl.out g (List.mem_of_getElem? hq))
   have hno:=hjd (fun(h:¬j < gs.length)=>(show gs.getD j (a0m 64)=a0m 64 from by rw [List.getD_eq_getElem?_getD,List.getElem?_eq_none (by omega)];rfl));generalize gs.getD j (a0m 64)=sg at *;have hltH:=hjd hlt;have cr:=hjd (fun u y (h:a1o acc y u)=>b3k y acc (b8l x0) u h (by have:=hal.out;omega) (d2x _));have R0:=R;have KK0:=KK;go_upto_region 6 with(first
    | ((with_reducible refine a0f 21 ?_);refine a0p (v:=.pointer (some ⟨sb,so + j,none⟩)) (by kernel_rfl) (b6e rfl rfl rfl (by have:=a5r (P:=Tryz.prog) (g:=sb) (off:=so) (c:=sc) (i:=j) a4d hltH.out;rw [Nat.mul_one]at this;exact this _ _)) ?_)
    | ((with_reducible refine a0f 6 ?_);(refine a0h (o:=⟨some 6,_,_,_,_,_⟩) rfl rfl b6c ?_);intro g6 w6 m6;have B6:=hjd (show Blk w6 g6 32 (bv (a0m 64)).toArray from m6.blk);have N6:=hjd m6.le;replace R:=hjd (a1o.a0k R.out m6.kept);have KM:=hjd m6.kept;replace KK:=hjd (KK.out.a0g m6.kept);clear m6))
   clear q0;by_cases hgl:j < gs.length
   ·have hgi:(j:Int) < (gs.length:Int):=by omega
    obtain⟨gb,go,gd,rfl,rfl,GR⟩:=SG.out hgl;replace GR:=hjd (GR _ (K.out.a0g KK.out));have hgH:=hjd hgl;clear SG hno hgl;go_upto_region 8 with(first
     | ((with_reducible refine a0f 25 ?_);refine a0p (v:=.slice (some ⟨gb,go,none⟩) gs.length gc) (by kernel_rfl) (a1d rfl (fun w=>by kernel_rfl) rfl ((B.out.kept KK.out (by simp)).cell 2)) ?_)
     | ((with_reducible refine a0f 29 ?_);refine a0p (v:=.slice (some ⟨gb,go,none⟩) gs.length gc) (by kernel_rfl) (a1d rfl (fun w=>by kernel_rfl) rfl ((B.out.kept KK.out (by simp)).cell 2)) ?_)
     | ((with_reducible refine a0f 31 ?_);refine a0p (v:=.pointer (some ⟨gb,go + j * 64,none⟩)) (by kernel_rfl) (b6e rfl rfl rfl (a5r (P:=Tryz.prog) (g:=gb) (off:=go) (c:=gc) (i:=j) a4c hgH.out _ _)) ?_)
     | ((with_reducible refine a0f 32 ?_);refine a1i (o:=⟨some 32,_,_,_,_,_⟩) (cs:=bv sg) Q.b7e (by kernel_rfl) (.tmp 31) rfl rfl GR.out (by simpa using hsl.out) ?_)
     | ((with_reducible refine a6c (.tmp 6) (.tmp 32) ?_);refine a0a (cs:=(bv sg).toArray) (o:=⟨none,Op.store 32 (.tmp 6) (.tmp 32),_,_,_,_⟩) Q.b7e (by kernel_rfl) (.tmp 6) (.tmp 32) rfl rfl rfl B6.out (by simp [a0m]) (by simpa using hsl.out) (a3o _) ?_;intro ws b6 k6;replace B6:=hjd b6;replace R:=hjd (show a1o acc (.slice XA acc.length xc) ws from Rd.kept R.out k6 (Rd.old R0.out (by omega) (by simpa using N6.out)));replace KK:=hjd (KK.out.a0r k6 (Nat.le_trans KK0.out.size N6.out));clear b6 k6))
    refine Txt.a2g (by kernel_rfl) (by kernel_rfl) ?_;replace B6:=hjd (B6.out.kept (Kept.refl [] _).drew (by simp));replace R:=hjd (a1o.a0k R.out (Kept.refl [] _).drew);replace KK:=hjd (KK.out.a0g (Kept.refl [] _).drew);have cj:=hjd (fun u x p q (h:Parts u x [(p,acc ++ be8 (b8l x0)),(q,sg)])=>a5u x _ u h (by simp) (by have:=hal.out;have:=hsl.out;simp [a0z,bytesOf,a2h];omega));have hB6r:=hjd (fun u (h:Blk u g6 32 (bv sg).toArray)=>(show a1o sg (.slice (some ⟨g6,0,none⟩) 64 64) u from e2l (fun j v hj=>by rw [h.cell,Nat.zero_add];simpa using hj) hsl.out));go_wp2_with (first
     | (go_at_call 63;(with_reducible refine(cr.out _ _ R.out).mono ?_);rintro e vn ⟨xn,rfl,hn⟩;have RN:=hjd hn.rd;have cN:=hjd (show xn.cells= #[xn]from by obtain⟨A,c,e,_⟩:=hn.ow.shape;rw [e];rfl);replace B6:=hjd (B6.out.kept hn.kept (by simp));replace KK:=hjd (KK.out.a0g hn.kept);clear hn)
     | ((with_reducible refine a0f 38 ?_);(refine a3c (o:=⟨some 38,_,_,_,_,_⟩) rfl a4j rfl rfl rfl cN.out rfl ?_);intro gl wl ml;have PP:=hjd (e2x ml.blk (a1o.a0k RN.out ml.kept) (hB6r.out _ (B6.out.kept ml.kept (by simp))));replace KK:=hjd (KK.out.a0g ml.kept);clear ml)
     | (go_at_call 64;(with_reducible refine(cj.out _ _ _ _ PP.out).mono ?_);rintro e vj ⟨xj,rfl,hj2⟩;have RJ:=hjd hj2.rd;replace KK:=hjd (KK.out.a0g hj2.kept);clear hj2))
    refine⟨rfl,by kernel_rfl,?_⟩;go_wp2_with fail;go_roundg (ns.length - (j + 1));case measure=>omega
    case rel=>exact⟨j + 1,by omega,by omega,by go_num,hjd (by rw [hacc.out];have h:=RJ.out;simp only [a0z,bytesOf]at h;simpa using h),KK⟩
   ·have hgi:¬(j:Int) < (gs.length:Int):=by omega
    obtain rfl:=hno.out hgl;clear SG hgl;go_upto_region 8 with(first
     | ((with_reducible refine a0f 25 ?_);refine a0p (v:=.slice GA gs.length gc) (by kernel_rfl) (a1d rfl (fun w=>by kernel_rfl) rfl ((B.out.kept KK.out (by simp)).cell 2)) ?_))
    refine Txt.a2g (by kernel_rfl) (by kernel_rfl) ?_;replace B6:=hjd (B6.out.kept (Kept.refl [] _).drew (by simp));replace R:=hjd (a1o.a0k R.out (Kept.refl [] _).drew);replace KK:=hjd (KK.out.a0g (Kept.refl [] _).drew);have cj:=hjd (fun u x p q (h:Parts u x [(p,acc ++ be8 (b8l x0)),(q,a0m 64)])=>a5u x _ u h (by simp) (by have:=hal.out;have:=hsl.out;simp [a0z,bytesOf,a2h];omega));have hB6r:=hjd (fun u (h:Blk u g6 32 (bv (a0m 64)).toArray)=>(show a1o (a0m 64) (.slice (some ⟨g6,0,none⟩) 64 64) u from e2l (fun j v hj=>by rw [h.cell,Nat.zero_add];simpa using hj) hsl.out));go_wp2_with (first
     | (go_at_call 63;(with_reducible refine(cr.out _ _ R.out).mono ?_);rintro e vn ⟨xn,rfl,hn⟩;have RN:=hjd hn.rd;have cN:=hjd (show xn.cells= #[xn]from by obtain⟨A,c,e,_⟩:=hn.ow.shape;rw [e];rfl);replace B6:=hjd (B6.out.kept hn.kept (by simp));replace KK:=hjd (KK.out.a0g hn.kept);clear hn)
     | ((with_reducible refine a0f 38 ?_);(refine a3c (o:=⟨some 38,_,_,_,_,_⟩) rfl a4j rfl rfl rfl cN.out rfl ?_);intro gl wl ml;have PP:=hjd (e2x ml.blk (a1o.a0k RN.out ml.kept) (hB6r.out _ (B6.out.kept ml.kept (by simp))));replace KK:=hjd (KK.out.a0g ml.kept);clear ml)
     | (go_at_call 64;(with_reducible refine(cj.out _ _ _ _ PP.out).mono ?_);rintro e vj ⟨xj,rfl,hj2⟩;have RJ:=hjd hj2.rd;replace KK:=hjd (KK.out.a0g hj2.kept);clear hj2))
    refine⟨rfl,by kernel_rfl,?_⟩;go_wp2_with fail;go_roundg (ns.length - (j + 1));case measure=>omega
    case rel=>exact⟨j + 1,by omega,by omega,by go_num,hjd (by rw [hacc.out];have h:=RJ.out;simp only [a0z,bytesOf]at h;simpa using h),KK⟩
  ·obtain rfl:j=ns.length:=by omega
   go_wp2_with fail
   go_ret;exact⟨_,rfl,R.out,K.out.a0g KK.out⟩
end Go.Proofs.YtdbngnlpafcogaaGreat
namespace Go.Proofs.YtdbngnlpafcogaaGreat
open Go.RowKit Go.Mem Go.Txt
set_option maxHeartbeats 1600000 in
theorem c9m(v:Value)(xs:List UInt8)(w:World)(hx:Rd w 1 v xs.length (bv xs))(hb:xs.length≤140737488351232) :
 Calls Tryz.prog 81 #[v] w fun e w'=>∃v',e= .returned v'∧New w w' v' (form xs):=by
 have hx2:=hjd hx;obtain⟨A,c,rfl,_,_,_⟩:=hx;have hb2:=hjd hb;have hl:=hjd (a2h xs.length);go_enter Tryz.func81,Tryz.ntmps81;go_wp2_with (first
  | (go_at_call 65;(refine(b0z xs.length _ (by have:=hb2.out;omega)).mono ?_);rintro e w1 ⟨ov,rfl,hn⟩;obtain⟨OA,oc,hov,_⟩:=hn.ow.shape;rw [hl.out]at hov;subst hov;have hn2:=hjd hn;have on:=hjd (by have:=hn.ow;rw [hl.out]at this;exact this);clear hn)
  | (at_builtin;refine a1q a1x rfl (.tmp 6) (.tmp 7) rfl rfl on.out rfl (hx2.out.a0k hn2.out.kept) (a2x _) ?_ ?_ ?_))
 case refine_1=>have:=hb2.out;omega
 case refine_2=>have:=hb2.out;omega
 intro v' w2 hown hk2 hb3
 have hn3:New w w2 v' (form xs):=hn2.out.step (by
  unfold form;rw [List.length_append,hl.out];simpa [bv]using hown) hk2 hn2.out.old (by
  rcases hb3 with h | h
  ·exact .inl h
  ·exact .inr ⟨_,h,hn2.out.kept.size⟩)
 clear hown hk2 hb3;go_wp2_with fail;go_ret;exact⟨_,rfl,hn3⟩
end Go.Proofs.YtdbngnlpafcogaaGreat
namespace Go.Proofs.YtdbngnlpafcogaaGreat
open Go.RowKit Go.Mem Go.Txt
theorem b1j{v v':Value}{k0 k1:Nat}(hf:∀k,v.ownBlock=some k→k0≤k)(hk:k0≤k1)(hn:v'.ownBlock=v.ownBlock∨v'.ownBlock=some k1):∀k,v'.ownBlock=some k→k0≤k:=by
 intro k h;rcases hn with e | e
 ·exact hf k (e▸h)
 ·rw [e]at h
  cases h
  exact hk
theorem e7b{w w':World}{v:Value}{xs:List UInt8}(h:New w w' v xs):∀k,v.ownBlock=some k→w.heap.size≤k:=fun k hk=>by
 rcases h.near with e | ⟨g,e,hg⟩
 ·exact absurd (e.symm.trans hk) (by simp)
 ·have e2:some g=some k:=e.symm.trans hk
  cases e2
  exact hg
set_option maxHeartbeats 3200000 in
theorem c2v{bd:List UInt8}{ns:List Int}{gs:List (List UInt8)}(bw sv gv:Value)(w:World)(hb:a1o bd bw w)(hs:Rd w 1 sv ns.length (iv ns))(hg:Rd w 64 gv gs.length (gs.flatMap bv))(hl:∀g∈gs,g.length=64)(hbl:bd.length≤1048576)(hnl:ns.length≤1048576) :
 Calls Tryz.prog 25 #[.agg #[bw,sv,gv]] w fun e w'=>∃v',e= .returned v'∧a1o (b4c ⟨bd,ns,gs⟩) v' w'∧Kept [] w w':=by
 obtain⟨BA,bc,rfl,_⟩:=id hb;obtain⟨SA,sc,rfl,_⟩:=id hs;obtain⟨GA,gc,rfl,_⟩:=id hg;replace hb:=hjd hb;replace hs:=hjd hs;replace hg:=hjd hg;have hcl:=hjd (show CL ⟨bd,ns,gs⟩from hl);replace hl:=hjd hl;obtain⟨Z64,hZ,hmk0⟩:=mkb 64 (by omega);have hmk:∀W:World,(Instr.makeSlice 23 (.int .i64 64) (.int .i64 64)).run Tryz.prog W= .ok (.slice (some ⟨W.heap.size,0,none⟩) 64 64) (W.alloc (.cells Z64 5)):=hmk0;replace hZ:=hjd hZ;clear hmk0;have ew:IntKind.u64.wrap (ns.length:Int)=(ns.length:Int):=by rw [IntKind.wrap_u64];omega
 have hrl:∀j,(a6a ⟨bd,ns,gs⟩ j).length=j * 72:=fun j=>b2j hcl.out j
 have cb:=hjd (fun u (h:a1o bd (.slice BA bd.length bc) u)=>c9m (.slice BA bd.length bc) bd u h (by omega));go_enter Tryz.func25,Tryz.ntmps25;go_upto_region 1 with(first
  | ((with_reducible refine a0f 1 ?_);(refine a0q (o:=⟨some 1,_,_,_,_,_⟩) (v:=.agg #[.slice BA bd.length bc,.slice SA ns.length sc,.slice GA gs.length gc]) rfl (.tmp 0) rfl rfl ?_);intro g1 w1 m1;have B:=hjd (show Blk w1 g1 56 #[.slice BA bd.length bc,.slice SA ns.length sc,.slice GA gs.length gc]from m1.blk);have KK:=hjd m1.kept;clear m1))
 have kd:=(Kept.refl [] w1).drew;replace B:=hjd (B.out.kept kd (by simp));replace KK:=hjd (KK.out.a0g kd);clear kd;refine Txt.a1k [4] (fun u=>Blk u g1 56 #[.slice BA bd.length bc,.slice SA ns.length sc,.slice GA gs.length gc]) [[_,_,_],[_,_,_,_,_],[_],[_]] (by kernel_rfl) (by kernel_rfl) rfl B.out (Txt.a0e ?_);go_wp2_with (first
  | ((with_reducible refine a0f 7 ?_);refine a0p (v:=.slice BA bd.length bc) (by kernel_rfl) (a1d rfl (fun w=>by kernel_rfl) rfl (B.out.cell 0)) ?_)
  | (go_at_call 81;(with_reducible refine(cb.out _ (a1o.a0k hb.out KK.out)).mono ?_);rintro e v8 ⟨x8,rfl,h8⟩;have X:=hjd h8.ow;have XF:=hjd (fun k (hk:x8.ownBlock=some k)=>Nat.le_trans KK.out.size (e7b h8 k hk));replace KK:=hjd (KK.out.a0g h8.kept);replace B:=hjd (B.out.kept h8.kept (by simp));obtain⟨XA,xc,rfl,_⟩:=h8.ow.shape;clear h8))
 refine And.intro rfl (And.intro B.out ?_);unfold Txt.a3j;go_wp2_with (first
  | ((with_reducible refine a0f 10 ?_);refine a0p (v:=.slice SA ns.length sc) (by kernel_rfl) (a1d rfl (fun w=>by kernel_rfl) rfl (B.out.cell 1)) ?_)
  | (go_at_call 65;(with_reducible refine(b0z ns.length _ (by omega)).mono ?_);rintro e v13 ⟨x13,rfl,h13⟩;have R13:=hjd h13.rd;replace X:=hjd (X.out.a0k h13.kept);replace KK:=hjd (KK.out.a0g h13.kept);replace B:=hjd (B.out.kept h13.kept (by simp));obtain⟨NA,nc,rfl,_⟩:=h13.ow.shape;clear h13))
 refine And.intro rfl (And.intro B.out ?_);unfold Txt.a3j;go_wp2_with (first
  | (at_builtin;refine a1q a1x rfl (.tmp 8) (.tmp 13) rfl rfl (xs:=bv (form bd)) (n:=(form bd).length) (m:=(be8 ns.length).length) (news:=bv (be8 ns.length)) X.out rfl R13.out (a2x _) (by simp [form,a2h];omega) (by simp [form,a2h];omega) ?_;intro xa wa oa ka ba;have oa':Ow wa 5 1 xa ((form bd) ++ (be8 ns.length)).length (bv ((form bd) ++ (be8 ns.length))):=by rw [List.length_append];simpa [bv]using oa
     obtain⟨accA,haccA⟩:∃l,(form bd) ++ (be8 ns.length)=l:=⟨_,rfl⟩;rw [haccA]at oa';replace haccA:=hjd haccA;replace B:=hjd (B.out.kept ka (fun h=>X.out.a2r B.out (by decide) (Option.mem_toList.1 h)));have XFn:=hjd (b1j XF.out KK.out.size ba);replace KK:=hjd (KK.out.fresh ka (fun k hk=>XF.out k (Option.mem_toList.1 hk)));replace X:=hjd oa';replace XF:=XFn;obtain⟨XA,xc,rfl,_⟩:=oa'.shape;clear oa oa' ka ba XFn))
 refine And.intro rfl (And.intro B.out ?_);unfold Txt.a3j;go_wp2_with fail;refine And.intro rfl (And.intro B.out (Txt.a0w ⟨⟨by kernel_rfl,?_⟩,?_⟩))
 ·intro j hj o ho hw;obtain rfl:j=4:=by simpa using hj
  cases ho
  exact⟨10,rfl,fun u hu=>a1d rfl (fun w=>by kernel_rfl) rfl (hu.cell 1)⟩
 clear R13;go_wp2_with (first
  | ((with_reducible refine a0f 16 ?_);refine a0p (v:=.slice SA ns.length sc) (by kernel_rfl) (a1d rfl (fun w=>by kernel_rfl) rfl (B.out.cell 1)) ?_))
 go_loopg [3,18] ns.length (fun f x3 x18 wk=>∃j:Nat,j≤ns.length∧f + j=ns.length∧x18= .int .i64 (j:Int)∧Hid (Ow wk 5 1 x3 (be8 bd.length ++ bd ++ be8 ns.length ++ a6a ⟨bd,ns,gs⟩ j).length (bv (be8 bd.length ++ bd ++ be8 ns.length ++ a6a ⟨bd,ns,gs⟩ j)))∧Hid (∀k,x3.ownBlock=some k→w.heap.size≤k)∧Hid (Kept [] w wk∧Blk wk g1 56 #[.slice BA bd.length bc,.slice SA ns.length sc,.slice GA gs.length gc]))
 case atStart=>exact⟨0,by omega,by omega,rfl,hjd (by rw [show be8 bd.length ++ bd ++ be8 ns.length ++ a6a ⟨bd,ns,gs⟩ 0=accA from by rw [←haccA.out];simp [form,a6a]];exact X.out),XF,hjd ⟨KK.out,B.out⟩⟩
 case round=>
  clear X XF KK B;obtain⟨j,hj,hf,rfl,X,XF,KB⟩:=hrel;have KK:=hjd KB.out.1;have B:=hjd KB.out.2;clear KB;have XS:=X.out;obtain⟨XA,xc,rfl,_⟩:=XS.shape;by_cases hlt:j < ns.length
  ·obtain⟨sb,so,sd,e,e2,e3⟩:=(hs.out.a0k KK.out).at_ (by omega)
   cases e
   have q0:=e3 j (.int .i64 (ns.getD j 0)) (by simp [iv,List.getD_eq_getElem?_getD,List.getElem?_eq_getElem hlt]);clear e2 e3;have hacc:=hjd (show be8 bd.length ++ bd ++ be8 ns.length ++ a6a ⟨bd,ns,gs⟩ (j + 1)=be8 bd.length ++ bd ++ be8 ns.length ++ a6a ⟨bd,ns,gs⟩ j ++ (be8 (b8l (ns.getD j 0)) ++ gs.getD j (a0m 64))from by rw [a9v,←List.append_assoc];rfl)
   have hal:=hjd (show(be8 bd.length ++ bd ++ be8 ns.length ++ a6a ⟨bd,ns,gs⟩ j).length≤80000000 from by
    simp only [List.length_append,a2h,hrl];omega)
   generalize be8 bd.length ++ bd ++ be8 ns.length ++ a6a ⟨bd,ns,gs⟩ j=acc at *;have hx64:=c5y (ns.getD j 0);generalize ns.getD j 0=x at *
   have SG:=hjd (fun(h:j < gs.length)=>(show∃g o c,GA=some ⟨g,o,none⟩∧gc=c∧∀u,Kept [] w u→u.rangeAt g (o + j * 64) (bv (gs.getD j (a0m 64)))from by
    obtain⟨g,o,c,e,_⟩:=hg.out.at_ (by omega);obtain⟨rfl,rfl⟩:GA=some ⟨g,o,none⟩∧gc=c:=by simpa using e
    exact⟨g,o,_,rfl,rfl,fun u hu=>d1o h hl.out (hg.out.a0k hu)⟩))
   have hsl:=hjd (show(gs.getD j (a0m 64)).length=64 from by
    rw [List.getD_eq_getElem?_getD]
    cases hq:gs[j]? with
    | none=>simp [a0m]
    | some g=>exact hl.out g (List.mem_of_getElem? hq))
   have hno:=hjd (fun(h:¬j < gs.length)=>(show gs.getD j (a0m 64)=a0m 64 from by rw [List.getD_eq_getElem?_getD,List.getElem?_eq_none (by omega)];rfl));generalize gs.getD j (a0m 64)=sg at *;have hltH:=hjd hlt;go_upto_region 6 with(first
    | ((with_reducible refine a0f 23 ?_);refine a0p (v:=.slice (some ⟨sb,so,none⟩) ns.length sc) (by kernel_rfl) (a1d rfl (fun w=>by kernel_rfl) rfl (B.out.cell 1)) ?_)
    | ((with_reducible refine a0f 25 ?_);refine a0p (v:=.pointer (some ⟨sb,so + j,none⟩)) (by kernel_rfl) (b6e rfl rfl rfl (by have:=a5r (P:=Tryz.prog) (g:=sb) (off:=so) (c:=sc) (i:=j) a4d hltH.out;rw [Nat.mul_one]at this;exact this _ _)) ?_)
    | (go_at_call 65;(with_reducible refine(b0z (b8l x) _ (d2x _)).mono ?_);rintro e v28 ⟨x28,rfl,h28⟩;have R28:=hjd h28.rd;replace X:=hjd (X.out.a0k h28.kept);replace KK:=hjd (KK.out.a0g h28.kept);replace B:=hjd (B.out.kept h28.kept (by simp));obtain⟨NA,nc,rfl,_⟩:=h28.ow.shape;clear h28)
    | (at_builtin;refine a1q a1x rfl (.tmp 21) (.tmp 28) rfl rfl (xs:=bv acc) (n:=acc.length) (m:=(be8 (b8l x)).length) (news:=bv (be8 (b8l x))) X.out rfl R28.out (a2x _) (by have:=hal.out;simp [a2h];omega) (by have:=hal.out;simp [a2h];omega) ?_;intro xa wa oa ka ba;have oa':Ow wa 5 1 xa (acc ++ (be8 (b8l x))).length (bv (acc ++ (be8 (b8l x)))):=by rw [List.length_append];simpa [bv]using oa
       obtain⟨acc2,hacc2⟩:∃l,acc ++ (be8 (b8l x))=l:=⟨_,rfl⟩;rw [hacc2]at oa';replace hacc2:=hjd hacc2;replace B:=hjd (B.out.kept ka (fun h=>X.out.a2r B.out (by decide) (Option.mem_toList.1 h)));have XFn:=hjd (b1j XF.out KK.out.size ba);replace KK:=hjd (KK.out.fresh ka (fun k hk=>XF.out k (Option.mem_toList.1 hk)));replace X:=hjd oa';replace XF:=XFn;obtain⟨XA,xc,rfl,_⟩:=oa'.shape;clear oa oa' ka ba XFn))
   clear q0;have hal2:=hjd (show acc2.length≤80000008 from by rw [←hacc2.out,List.length_append,a2h];have:=hal.out;omega);by_cases hgl:j < gs.length
   ·have hgi:(j:Int) < (gs.length:Int):=by omega
    obtain⟨gb,go,gd,rfl,rfl,GR⟩:=SG.out hgl;replace GR:=hjd GR;have hgH:=hjd hgl;clear SG hno hgl;go_upto_region 7 with fail
    have kz:Kept [] wa (wa.alloc (.cells Z64 5)):=(Kept.refl [] wa).alloc _;replace X:=hjd (X.out.a0k kz);replace KK:=hjd (KK.out.a0g kz);replace B:=hjd (B.out.kept kz (by simp));clear kz;generalize wa.alloc (.cells Z64 5)=wz at *;have R5:=hjd (show Rd wz 1 (.slice (some ⟨gb,go + j * 64,none⟩) 64 64) sg.length (bv sg)from by rw [hsl.out];exact d7k (GR.out _ KK.out) hsl.out);go_upto_region 9 with(first
     | ((with_reducible refine a0f 33 ?_);refine a0p (v:=.slice (some ⟨gb,go,none⟩) gs.length gc) (by kernel_rfl) (a1d rfl (fun w=>by kernel_rfl) rfl (B.out.cell 2)) ?_)
     | ((with_reducible refine a0f 37 ?_);refine a0p (v:=.slice (some ⟨gb,go,none⟩) gs.length gc) (by kernel_rfl) (a1d rfl (fun w=>by kernel_rfl) rfl (B.out.cell 2)) ?_)
     | ((with_reducible refine a0f 39 ?_);refine a0p (v:=.pointer (some ⟨gb,go + j * 64,none⟩)) (by kernel_rfl) (b6e rfl rfl rfl (a5r (P:=Tryz.prog) (g:=gb) (off:=go) (c:=gc) (i:=j) a4c hgH.out _ _)) ?_))
    go_wp2_with (first
     | (at_builtin;refine a1q a1x rfl (.tmp 41) (.tmp 42) rfl rfl (xs:=bv acc2) (n:=acc2.length) (m:=sg.length) (news:=bv sg) X.out rfl R5.out (a2x _) (by have:=hal2.out;have:=hsl.out;omega) (by have:=hal2.out;have:=hsl.out;omega) ?_;intro xa wa oa ka ba;have oa':Ow wa 5 1 xa (acc2 ++ sg).length (bv (acc2 ++ sg)):=by rw [List.length_append];simpa [bv]using oa
        obtain⟨acc3,hacc3⟩:∃l,acc2 ++ sg=l:=⟨_,rfl⟩;rw [hacc3]at oa';replace hacc3:=hjd hacc3;replace B:=hjd (B.out.kept ka (fun h=>X.out.a2r B.out (by decide) (Option.mem_toList.1 h)));have XFn:=hjd (b1j XF.out KK.out.size ba);replace KK:=hjd (KK.out.fresh ka (fun k hk=>XF.out k (Option.mem_toList.1 hk)));replace X:=hjd oa';replace XF:=XFn;obtain⟨XA,xc,rfl,_⟩:=oa'.shape;clear oa oa' ka ba XFn))
    go_roundg (ns.length - (j + 1));case measure=>omega
    case rel=>exact⟨j + 1,by omega,by omega,by go_num,hjd (by rw [hacc.out,←List.append_assoc,hacc2.out,hacc3.out];exact X.out),XF,hjd ⟨KK.out,B.out⟩⟩
   ·have hgi:¬(j:Int) < (gs.length:Int):=by omega
    obtain rfl:=hno.out hgl;clear SG hgl;go_upto_region 7 with fail
    have kz:Kept [] wa (wa.alloc (.cells Z64 5)):=(Kept.refl [] wa).alloc _
    have R5:=hjd (show Rd (wa.alloc (.cells Z64 5)) 1 (.slice (some ⟨wa.heap.size,0,none⟩) 64 64) (a0m 64).length (bv (a0m 64))from by
     have hb0:Blk (wa.alloc (.cells Z64 5)) wa.heap.size 5 (bv (a0m 64)).toArray:=by rw [←hZ.out];exact Blk.new _ _ _
     exact d7k (fun j v hj=>by rw [hb0.cell,Nat.zero_add];simpa using hj) (by simp [a0m]))
    replace X:=hjd (X.out.a0k kz);replace KK:=hjd (KK.out.a0g kz);replace B:=hjd (B.out.kept kz (by simp));clear kz;generalize wa.alloc (.cells Z64 5)=wz at *;generalize wa.heap.size=gz at *;go_upto_region 9 with(first
     | ((with_reducible refine a0f 33 ?_);refine a0p (v:=.slice GA gs.length gc) (by kernel_rfl) (a1d rfl (fun w=>by kernel_rfl) rfl (B.out.cell 2)) ?_))
    go_wp2_with (first
     | (at_builtin;refine a1q a1x rfl (.tmp 41) (.tmp 42) rfl rfl (xs:=bv acc2) (n:=acc2.length) (m:=(a0m 64).length) (news:=bv (a0m 64)) X.out rfl R5.out (a2x _) (by have:=hal2.out;have:=hsl.out;omega) (by have:=hal2.out;have:=hsl.out;omega) ?_;intro xa wa oa ka ba;have oa':Ow wa 5 1 xa (acc2 ++ a0m 64).length (bv (acc2 ++ a0m 64)):=by rw [List.length_append];simpa [bv]using oa
        obtain⟨acc3,hacc3⟩:∃l,acc2 ++ a0m 64=l:=⟨_,rfl⟩;rw [hacc3]at oa';replace hacc3:=hjd hacc3;replace B:=hjd (B.out.kept ka (fun h=>X.out.a2r B.out (by decide) (Option.mem_toList.1 h)));have XFn:=hjd (b1j XF.out KK.out.size ba);replace KK:=hjd (KK.out.fresh ka (fun k hk=>XF.out k (Option.mem_toList.1 hk)));replace X:=hjd oa';replace XF:=XFn;obtain⟨XA,xc,rfl,_⟩:=oa'.shape;clear oa oa' ka ba XFn))
    go_roundg (ns.length - (j + 1));case measure=>omega
    case rel=>exact⟨j + 1,by omega,by omega,by go_num,hjd (by rw [hacc.out,←List.append_assoc,hacc2.out,hacc3.out];exact X.out),XF,hjd ⟨KK.out,B.out⟩⟩
  ·obtain rfl:j=ns.length:=by omega
   go_wp2_with fail
   go_ret;exact⟨_,rfl,Rd.a6w X.out,KK.out⟩
end Go.Proofs.YtdbngnlpafcogaaGreat
namespace Go.Proofs.YtdbngnlpafcogaaGreat
open Go.RowKit Go.Mem Go.Txt
theorem c1r{sg:List UInt8}(h:sg.length=64):Tryz.prog.built 132 [(1,ab sg)]=some (shC (0,sg)).toArray:=by
 rw [as_map h]
 kernel_rfl
theorem b8v{n:Int}{sg:List UInt8}(h:sg.length=64):(shC (n,sg)).length=65:=by simp [shC,h]
theorem lit97(u:World)(fr:Nat × Nat):a1o [97] (.slice (some ⟨u.heap.size,0,none⟩) 1 1) (u.alloc (.cells #[.int .u8 97] 5 fr)):=lit_b rfl rfl
theorem lit97b(u:World)(o:Obj)(fr:Nat × Nat):a1o [97] (.slice (some ⟨u.heap.size + 1,0,none⟩) 1 1) ((u.alloc o).alloc (.cells #[.int .u8 97] 5 fr)):=lit_b (by simp) rfl
set_option maxHeartbeats 3200000 in
theorem c3n{sd SG:List UInt8}{keys:List (List UInt8)}(hsd:sd.length=32)(hSG:SG.length=64)
 (c0:∀u,Calls Tryz.prog 76 #[.int .i64 0] u fun e w'=>∃r b kv sv,e= .returned (.tuple #[.pointer (some ⟨r,0,none⟩),sv])∧RgJ r b kv keys w'∧Rd w' 32 sv 1 (bv sd)∧Kept [] u w'∧u.heap.size≤b)
 (cs:∀u v,a1o [97] v u→Calls Tryz.prog 78 #[ab sd,.int .u8 5,v] u fun e w'=>e= .returned (ab SG)∧Kept [] u w')
 (cm:∀r b kv u bw A c,RgJ r b kv keys u→a1o [97] bw u→Rd u 65 (.slice A 1 c) 1 (shC (0,SG))→Calls Tryz.prog 77 #[.pointer (some ⟨r,0,none⟩),.int .u8 5,bw,.slice A 1 c] u fun e w'=>∃b2 s2 g2,e= .returned (.tuple #[.agg #[b2,s2,g2],.int .i64 0])∧RgJ r b kv keys w'∧Kept [b] u w'∧a1o [97] b2 w'∧Rd w' 1 s2 1 [.int .i64 0]∧Rd w' 64 g2 1 (bv SG))
 (c5:∀r b kv u bw sv gv,RgJ r b kv keys u→a1o [97] bw u→Rd u 1 sv 1 [.int .i64 0]→Rd u 64 gv 1 (bv SG)→Calls Tryz.prog 79 #[.pointer (some ⟨r,0,none⟩),.int .u8 5,.agg #[bw,sv,gv]] u fun e w'=>e= .returned (.int .i64 0)∧RgJ r b kv keys w'∧Kept [b] u w')
 (c4:∀r b kv u bw sv gv,RgJ r b kv keys u→a1o [97] bw u→Rd u 1 sv 1 [.int .i64 0]→Rd u 64 gv 1 (bv SG)→Calls Tryz.prog 79 #[.pointer (some ⟨r,0,none⟩),.int .u8 4,.agg #[bw,sv,gv]] u fun e w'=>e= .returned (.int .i64 60)∧RgJ r b kv keys w'∧Kept [b] u w')
 (cz:∀r b kv u,RgJ r b kv keys u→Calls Tryz.prog 79 #[.pointer (some ⟨r,0,none⟩),.int .u8 5,.agg #[.slice none 0 0,.slice none 0 0,.slice none 0 0]] u fun e w'=>e= .returned (.int .i64 80)∧RgJ r b kv keys w'∧Kept [b] u w') (w:World) :
 Calls Tryz.prog 23 #[] w fun e w'=>e= .returned (.bool true)∧Kept [] w w':=by
 have sb:=hjd (c1r hSG);replace hsd:=hjd hsd;replace hSG:=hjd hSG;replace c0:=hjd c0;replace cs:=hjd cs;replace cm:=hjd cm;replace c5:=hjd c5;replace c4:=hjd c4;replace cz:=hjd cz;go_enter Tryz.func23,Tryz.ntmps23;go_wp2_with (first
  | (go_at_call 76;(with_reducible refine(c0.out _).mono ?_);rintro e u6 ⟨r,b,kv,sv,rfl,J,S,K,L⟩;replace J:=hjd J;replace K:=hjd K;have hB:∀k∈[b],w.heap.size≤k:=by simpa using L
     replace hB:=hjd hB;obtain⟨sb0,so,sc,rfl,e2,e3⟩:=S.at_ (by decide);clear e2 e3 L;replace S:=hjd S)
  | ((with_reducible refine a0f 14 ?_);refine a4t (i:=0) (n:=1) (o:=⟨some 14,_,_,_,_,_⟩) b0w rfl (.tmp 13) (.const (.int .i64 0)) rfl rfl rfl (by decide) ?_)
  | ((with_reducible refine a0f 15 ?_);refine a1i (o:=⟨some 15,_,_,_,_,_⟩) (cs:=bv sd) a2u.row rfl (.tmp 14) rfl rfl (Rd.elem (i:=0) (n:=1) (pre:=[]) (post:=[]) (S.out.a0k ((Kept.refl [] _).alloc _)) (by simp) (by simp) (by decide)) (by simpa using hsd.out) ?_)
  | (go_at_call 78;(with_reducible refine(cs.out _ _ (lit97b u6 _ _)).mono ?_);rintro e u18 ⟨rfl,kk⟩;have k0:=(((Kept.refl [] u6).alloc _).alloc _).a0g kk;have R11:=hjd (a1o.a0k (a1o.a0k (lit97 u6 _) ((Kept.refl [] _).alloc _)) kk);replace K:=hjd (K.out.a0g k0);replace J:=hjd (RgJ.far J.out (by simp) J.out k0);clear kk k0 S)
  | ((with_reducible refine a0f 19 ?_);refine a3x (v:=ab SG) (cs:=(shC (0,SG)).toArray) rfl 1 (.tmp 18) rfl rfl sb.out ?_)
  | ((with_reducible refine a0f 20 ?_);(refine a1a (o:=⟨some 20,_,_,_,_,_⟩) (v0:=.agg (shC (0,SG)).toArray) (cells:=(shC (0,SG)).toArray) rfl d2g rfl rfl (by decide) rfl (by rw [List.size_toArray];exact b8v hSG.out) ?_);intro g20 w20 m20;have R20:=hjd (a4x m20.blk (b8v hSG.out));replace K:=hjd (K.out.a0g m20.kept);replace J:=hjd (RgJ.far J.out (by simp) J.out m20.kept);replace R11:=hjd (a1o.a0k R11.out m20.kept);clear m20)
  | (go_at_call 77;(with_reducible refine(cm.out _ _ _ _ _ _ _ J.out R11.out R20.out).mono ?_);rintro e u21 ⟨b2,s2,g2,rfl,J2,k2,hb,hs,hg⟩;replace K:=hjd (K.out.fresh k2 hB.out);replace J:=hjd J2;obtain⟨BA,bc,rfl,e1⟩:=id hb;obtain⟨SA,sc2,rfl,e2⟩:=id hs;obtain⟨GA,gc,rfl,e3⟩:=id hg;clear e1 e2 e3 J2 k2 R11 R20;have HB:=hjd (show a1o [97] (.slice BA 1 bc) u21 from hb);have HS:=hjd hs;have HG:=hjd hg;clear hb hs hg)
  | ((with_reducible refine a0f 3 ?_);(refine a0h (o:=⟨some 3,_,_,_,_,_⟩) rfl rfl a2v ?_);intro g3 w3 m3;refine a0a (cs:=#[.slice BA 1 bc,.slice SA 1 sc2,.slice GA 1 gc]) (o:=⟨none,Op.store 56 (.tmp 3) (.tmp 22),_,_,_,_⟩) a2i rfl (.tmp 3) (.tmp 22) rfl rfl rfl m3.blk rfl rfl (a1v _ _ _ _ _ _ _ _ _) ?_;intro wb3 b3 k3;have K3:=m3.kept.a0r k3 m3.le
     have N3:=hjd (show g3∉[b]from fun h=>by
      obtain⟨D,hD⟩:=J.out;have h1:=hD.blt;have h2:=m3.le;rw [List.mem_singleton.1 h]at h2;omega)
     have B3:=hjd b3;replace K:=hjd (K.out.a0g K3);replace J:=hjd (RgJ.far J.out (by simp) J.out K3);replace HB:=hjd (a1o.a0k HB.out K3);replace HS:=hjd (HS.out.a0k K3);replace HG:=hjd (HG.out.a0k K3);clear m3 b3 k3 K3)
  | ((with_reducible refine a0f 28 ?_);refine a0p (by kernel_rfl) (a1d rfl (fun w=>by kernel_rfl) rfl (B3.out.cell 1)) ?_)
  | ((with_reducible refine a0f 34 ?_);refine a0d (cs:=#[.slice BA 1 bc,.slice SA 1 sc2,.slice GA 1 gc]) (o:=⟨some 34,_,_,_,_,_⟩) a2i (by kernel_rfl) (.tmp 3) rfl rfl B3.out rfl ?_)
  | ((with_reducible refine a0f 40 ?_);refine a0d (cs:=#[.slice BA 1 bc,.slice SA 1 sc2,.slice GA 1 gc]) (o:=⟨some 40,_,_,_,_,_⟩) a2i (by kernel_rfl) (.tmp 3) rfl rfl B3.out rfl ?_)
  | (go_at_call 79;(with_reducible refine(c5.out _ _ _ _ _ _ _ J.out HB.out HS.out HG.out).mono ?_);rintro e u35 ⟨rfl,J2,k2⟩;replace HB:=hjd (show a1o [97] (.slice BA 1 bc) _ from RgJ.rd (by decide) J.out k2 HB.out);replace HS:=hjd (RgJ.rd (by decide) J.out k2 HS.out);replace HG:=hjd (RgJ.rd (by decide) J.out k2 HG.out);replace K:=hjd (K.out.fresh k2 hB.out);replace B3:=hjd (B3.out.kept k2 N3.out);replace J:=hjd J2;clear J2 k2)
  | (go_at_call 79;(with_reducible refine(c4.out _ _ _ _ _ _ _ J.out HB.out HS.out HG.out).mono ?_);rintro e u41 ⟨rfl,J2,k2⟩;replace K:=hjd (K.out.fresh k2 hB.out);replace J:=hjd J2;clear J2 k2 HB HS HG)
  | ((with_reducible refine a0f 46 ?_);refine a0y (cs:=#[.slice none 0 0,.slice none 0 0,.slice none 0 0]) (by kernel_rfl) rfl (by kernel_rfl) ?_)
  | (go_at_call 79;(with_reducible refine(cz.out _ _ _ _ J.out).mono ?_);rintro e u47 ⟨rfl,J2,k2⟩;replace K:=hjd (K.out.fresh k2 hB.out);clear J2 k2))
 go_ret;exact⟨rfl,K.out⟩
theorem c5b(w:World):Calls Tryz.prog 23 #[] w fun e w'=>e= .returned (.bool true)∧Kept [] w w':=by
 have hSG:(a9c (a6r 0) (a5o 5 [97])).length=64:=d3j _ _;have hk:a4a 1= [b6u 0]:=rfl;have o5:okR (a4a 1) 5 [97] 0 (a9c (a6r 0) (a5o 5 [97]))=true:=by
  unfold okR;rw [c8q (by decide)];have:=e4e (a6r 0) (a5o 5 [97]);simpa [a5f,b6u]using this
 have o4:okR (a4a 1) 4 [97] 0 (a9c (a6r 0) (a5o 5 [97]))=false:=by
  unfold okR;rw [c8q (by decide)];have:=kr_no kr8_0;simpa [a5f,b6u]using this
 have hf:c0h (a4a 1) 5 [97] [(0,a9c (a6r 0) (a5o 5 [97]))]=fun k=>if k=0 then some 0 else none:=by
  have e:c0h (a4a 1) 5 [97] [(0,a9c (a6r 0) (a5o 5 [97]))]=d0e (okR (a4a 1) 5 [97]) (fun _=>none) 0 (0,a9c (a6r 0) (a5o 5 [97])):=rfl;rw [e];unfold d0e;rw [if_pos ⟨by simp,by simp,rfl,o5⟩];rfl
 have hc:d5n (fun k=>if k=0 then some 0 else none)=1:=by decide
 have hp:a6b (fun k=>if k=0 then some 0 else none) 1 7= [0]:=by decide
 have hl:c4a (a4a 1).length=1:=by rw [a5f];rfl
 generalize hSe:a9c (a6r 0) (a5o 5 [97])=SG at *;refine c3n (keys:=a4a 1) (a9l 0) hSG (fun u=>?_) (fun u v hv=>?_) (fun r b kv u bw A c J hb hs=>?_) (fun r b kv u bw sv gv J hb hs hg=>?_) (fun r b kv u bw sv gv J hb hs hg=>?_) (fun r b kv u J=>?_) w
 ·refine(of_any 0 (by decide) u).mono ?_;rintro e w' ⟨r,b,kv,sv,rfl,h1,h2,h3,h4⟩;exact⟨r,b,kv,sv,rfl,⟨_,h1⟩,by simpa [a7a]using h2,h3,h4⟩
 ·have:=d8y (seed:=a6r 0) 5 (a9l 0) v [97] u hv (by simp);rw [hSe]at this;exact this
 ·have:=d5v J 5 (sh:=[(0,SG)]) (body:=[97]) bw (SA:=A) (sc:=c) hb (by simp) (by simpa using hs) (by simpa using hSG) (by simp);rw [hf,hl,hc,hp]at this;refine this.mono ?_;rintro e w' ⟨hj,k,⟨h,_⟩ | ⟨_,b2,s2,g2,rfl,h1,h2,h3⟩⟩
  ·omega
  ·exact⟨b2,s2,g2,rfl,hj,k,h1,by simpa using h2,by simpa [b7x]using h3⟩
 ·have:=b3m J 5 (ns:=[0]) (gs:=[SG]) (body:=[97]) bw sv gv hb (by simp) (by simpa using hs) (by simpa using hg) (by simpa using hSG) (by simp) (by simp);have e:a6o (c4a (a4a 1).length) (a4a 1).length (okR (a4a 1) 5 [97]) [0] [SG]=0:=by
   rw [hl,a5f];unfold a6o;rw [if_neg (by simp),if_neg (by decide),if_pos];intro k hk;obtain rfl:k=0:=by simpa using hk
   exact o5
  rw [e]at this;exact this
 ·have:=b3m J 4 (ns:=[0]) (gs:=[SG]) (body:=[97]) bw sv gv hb (by simp) (by simpa using hs) (by simpa using hg) (by simpa using hSG) (by simp) (by simp);have e:a6o (c4a (a4a 1).length) (a4a 1).length (okR (a4a 1) 4 [97]) [0] [SG]=60:=by
   rw [hl,a5f];unfold a6o;rw [if_neg (by simp),if_neg (by decide),if_neg];intro h;have:=h 0 (by simp);rw [show okR (a4a 1) 4 [97] (([0]:List Int).getD 0 0).toNat ([SG].getD 0 [])=false from o4]at this
   cases this
  rw [e]at this;exact this
 ·have:=b3m J 5 (ns:=[]) (gs:=[]) (body:=[]) (.slice none 0 0) (.slice none 0 0) (.slice none 0 0) (Rd.nil _ _) (by simp) (Rd.nil _ _) (Rd.nil _ _) (by simp) (by simp) (by simp);have e:a6o (c4a (a4a 1).length) (a4a 1).length (okR (a4a 1) 5 []) [] []=80:=by
   rw [hl];unfold a6o;rw [if_pos (by simp)]
  rw [e]at this;exact this
end Go.Proofs.YtdbngnlpafcogaaGreat
namespace Go.Proofs.YtdbngnlpafcogaaGreat
open Go.RowKit Go.Mem Go.Txt
section
variable {e:TypeId} {s n c g o:Nat}
variable {P:Program} {w:World} {o':Oper} {a:Act} {C:Act→World→Prop} {R:Exit→Act→World→Prop} {ops:Array Oper} {rest:List Oper} {Q:Exit→Act→World→Prop} {t:TypeId}
theorem b0i(hgd:Region.wanted o' (yielded ops a.tmps)=true){bt:TypeId}{b off:Nat}{v:Value}{cs:Array Value}(x y:Operand)(ho:o'.op= .store t x y)(hx:a.eval x= .pointer (some ⟨b,off,none⟩))(hy:a.eval y=v)(h1:v.oneCell'=true)
 (hs:(P.info? t).map (·.size)=some 1) (hb:Blk w b bt cs) (hl:off < cs.size) (h:∀w',Blk w' b bt (cs.setIfInBounds off v)→Kept [b] w w'→wpList P ops Q rest (a.put o'.dst undef) w'):wpList P ops Q (o' :: rest) a w:=
 a1u hgd fun _ hK=>a2l x y ho hx hy h1 hs hb hl fun w' h2 h3=>hK _ _ (h w' h2 h3)
end
structure CO (w1:World) (g10:Nat) (bd:List UInt8) (ns:List Int) (bs:List UInt8) (n:Nat) (bw sv gv:Value) (u:World):Prop where
 k:Kept [] w1 u
 gg:w1.heap.size≤g10
 b:Blk u g10 56 #[bw,sv,gv]
 m:Ow u 5 1 bw bd.length (bv bd)
 mf:∀k,bw.ownBlock=some k→w1.heap.size≤k
 s:Ow u 3 1 sv ns.length (iv ns)
 sf:∀k,sv.ownBlock=some k→w1.heap.size≤k
 g:Ow u 32 64 gv n (bv bs)
 gf:∀k,gv.ownBlock=some k→w1.heap.size≤k
section
variable {w1:World} {g10:Nat} {bd bd':List UInt8} {ns ns':List Int} {bs bs':List UInt8} {n n':Nat} {bw sv gv v':Value} {u uc u2:World}
theorem CO.a0k(h:CO w1 g10 bd ns bs n bw sv gv u)(hk:Kept [] u u2):CO w1 g10 bd ns bs n bw sv gv u2:=
 ⟨h.k.a0g hk,h.gg,h.b.kept hk (by simp),h.m.a0k hk,h.mf,h.s.a0k hk,h.sf,h.g.a0k hk,h.gf⟩
theorem b4r{v v':Value}{k0 k1:Nat}(hf:∀k,v.ownBlock=some k→k0≤k)(hk:k0≤k1)(hn:v'.ownBlock=v.ownBlock∨∀k,v'.ownBlock=some k→k1≤k):∀k,v'.ownBlock=some k→k0≤k:=by
 intro k h;rcases hn with e | e
 ·exact hf k (e▸h)
 ·exact Nat.le_trans hk (e k h)
theorem d9h{v':Value}{ob:Option Nat}{k1:Nat}(h:v'.ownBlock=ob∨v'.ownBlock=some k1):v'.ownBlock=ob∨∀k,v'.ownBlock=some k→k1≤k:=
 h.imp id fun e k hk=>by
  rw [e]at hk
  cases hk
  exact Nat.le_refl _
end
end Go.Proofs.YtdbngnlpafcogaaGreat
namespace Go.Txt
open Go.RowKit Go.Mem
section
variable {P:Program} {Q:Exit→Act→World→Prop}
theorem a6k(F:List Nat)(S:World→Prop){id:Nat}{a:Act}{w:World}{ops:Array Oper}(l tl:List Oper)(hops:ops=(l ++ tl).toArray)(ss:List (List Oper))(hm:P.follows .mixedOrders=true)(hB:b9b P l.toArray F=true)
 (hdep2:d1m (l ++ tl).toArray=true) (hgd:(l ++ tl).all (fun o=>o.guard.isNone)=true) (htl:e4o (l ++ tl) l.length=true) (hne:0 < tl.length)
 (hss:parts P l=ss) (hS:S w.drew) (h:a3j P l.toArray S (a4v P l.toArray F S (fun _ a w=>a2t P Q tl a w)) ss a w.drew):(Code.region id ops true).wp P Q a w:=by
 subst hops;simp only [b9b,Bool.and_eq_true]at hB;obtain⟨⟨⟨hns,hset⟩,hdep⟩,hrows⟩:=hB;obtain⟨acc,hinv,hpr⟩:=a7v hdep l 0 [] (by simp) ⟨rfl,fun e he=>by omega⟩ (by simpa using hrows);have hpair:∀i j oi oj,i < j→l.toArray[i]?=some oi→l.toArray[j]?=some oj→¬b9r l.toArray i oj→b4k P l.toArray F i j oi oj=true:=
  fun i j oi oj hij hi hj hn=>b1c (by simpa using hinv) hpr hij hi hj hn
 have hG:∀a w,a4v P l.toArray F S (fun _ a w=>a2t P Q tl a w) a w→Good P l.toArray F S a:=fun _ _ h=>h.1
 have hsel:=Region.noSelect_spec hns;have h1:b7h P l.toArray S (a4v P l.toArray F S (fun _ a w=>a2t P Q tl a w)) l.length 0 a w.drew:=by
  subst hss;have hpn:=b2d (P:=P) l;have hpf:=a6i (P:=P) l;have hpo:=b5e (P:=P) l
  cases hp:parts P l with
  | nil=>exact absurd hp hpn
  | cons s ss=>
    rw [hp]at h hpf hpo
    have:=b4s hG hset (a3w hdep) hsel ss s 0 a w.drew hS hpo (fun j=>by
     have:s ++ ss.flatten=l:=by simpa using hpf
     rw [this];simp) h
    have e:s ++ ss.flatten=l:=by simpa using hpf
    rw [e]at this;exact this
 have h2:=b0b hG hset hdep hpair hsel l.length 0 (Array.replicate l.toArray.size false) a w.drew hS (by simp) (by simp) (fun j hj=>by simp at hj;simp [hj]) (a4z.start _) h1;generalize hGe:a4v P l.toArray F S (fun _ a w=>a2t P Q tl a w)=G at h2;have hGs:∀a w,G a w→a2t P Q tl a w:=fun a w hg=>by
  rw [←hGe]at hg;exact hg.2
 clear hGe hG h1 h hS hpair hpr hinv hrows hsel hset hns;have hgd2:∀(i:Nat) (o:Oper),(l ++ tl)[i]?=some o→o.guard=none:=fun i o ho=>by
  have:=List.all_eq_true.1 hgd o (List.mem_of_getElem? ho);simpa using this
 have hge:∀(i:Nat),i < l.length→(l ++ tl)[i]?=l[i]?:=fun i hi=>List.getElem?_append_left hi
 let I:(Nat→Bool)→Act→World→Prop:=fun L a w=>b3c (l ++ tl) L∧(((∃(fuel:Nat) (m:Array Bool),m.size=l.length∧(∀j,j < l.length→m.getD j true=L j)∧anyS P l.toArray S G fuel m a w)∧∀j,l.length≤j→j < (l ++ tl).length→L j=false)∨
  ∃m,l.length < m∧m≤(l ++ tl).length∧(∀j,j < m→L j=true)∧(∀j,m≤j→j < (l ++ tl).length→L j=false)∧a2t P Q ((l ++ tl).drop m) a w)
 refine wp_region_any hm ?_;refine a9d I ?_ hdep2 ?_ ?_ _ _ _ _ (by simp) (by simp) ?_
 ·rintro L L' a w hL ⟨hc,h⟩;have hL2:∀j,j < (l ++ tl).length→L j=L' j:=fun j hj=>hL j (by simpa using hj)
  have hll:l.length≤(l ++ tl).length:=by simp
  refine⟨fun j o hj hl k hb hk=>?_,?_⟩
  ·have hjl:j < (l ++ tl).length:=(List.getElem?_eq_some_iff.1 hj).1;exact(hL2 k hk).symm.trans (hc j o hj ((hL2 j hjl).trans hl) k hb hk)
  rcases h with⟨⟨f,m,h1,h2,h3⟩,h4⟩ | ⟨m,m1,m2,m3,m4,m5⟩
  ·exact .inl ⟨⟨f,m,h1,fun j hj=>(h2 j hj).trans (hL2 j (by omega)),h3⟩,fun j hj hl=>(hL2 j hl).symm.trans (h4 j hj hl)⟩
  ·exact .inr ⟨m,m1,m2,fun j hj=>(hL2 j (by omega)).symm.trans (m3 j hj),fun j hj hl=>(hL2 j hl).symm.trans (m4 j hj hl),m5⟩
 ·rintro L a w i o ⟨hcl,hI⟩ ho hLi hdeps;have ho':(l ++ tl)[i]?=some o:=by simpa using ho
  have hil:i < (l ++ tl).length:=(List.getElem?_eq_some_iff.1 ho').1;have hbound:∀j,a1w o j→L j=true:=by
   rintro j ⟨e,he,rfl,hb⟩;exact hdeps e he hb
  have hstep:=b6f hcl ho' hbound;have hwt:∀y,Region.wanted o y=true:=fun y=>by simp [Region.wanted,hgd2 i o ho']
  have hnext:∀m,l.length≤m→i=m→(∀j,j < m→L j=true)→(∀j,m≤j→j < (l ++ tl).length→L j=false)→∀a w,a2t P Q ((l ++ tl).drop m) a w→wpOp P (l ++ tl).toArray Q i (I (fun j=>if j=i then true else L j)) a w:=by
   rintro m hm rfl m3 m4 a w hq;rw [List.drop_eq_getElem_cons hil]at hq;have e:(l ++ tl)[i]=o:=by
    rw [List.getElem?_eq_getElem hil]at ho';simpa using ho'
   rw [e]at hq;unfold wpOp;simp only [ho,hwt,if_true];refine .inl (Oper.wp_mono (fun a' w' hq=>⟨hstep,.inr ⟨i + 1,by omega,by omega,fun j hj=>?_,fun j hj hl=>?_,hq⟩⟩) hq)
   ·dsimp only
    by_cases h:j=i
    ·rw [if_pos h]
    ·rw [if_neg h];exact m3 j (by omega)
   ·dsimp only
    rw [if_neg (by omega)];exact m4 j (by omega) hl
  rcases hI with⟨⟨f,m,hms,hmL,hA⟩,h4⟩ | ⟨m,m1,m2,m3,m4,m5⟩
  case inr=>
   have hmi:m≤i:=by
    rcases Nat.lt_or_ge i m with h | h
    ·rw [m3 i h]at hLi;cases hLi
    ·exact h
   have him:i=m:=by
    rcases Nat.lt_or_ge m i with h | h
    ·have:=b1l htl (by omega) hil hcl ho' (fun j hb _=>hbound j hb) m h;rw [m4 m (Nat.le_refl _) (by omega)]at this;cases this
    ·omega
   exact hnext m (by omega) him m3 m4 _ _ m5
  by_cases hin:l.length≤i
  ·have hall:=b1l htl hin hil hcl ho' (fun j hb _=>hbound j hb);have hi:i=l.length:=by
    rcases Nat.lt_or_ge l.length i with h | h
    ·have:=hall l.length h;rw [h4 _ (Nat.le_refl _) (by simp;omega)]at this;cases this
    ·omega
   have hr:Region.ready .any l.toArray m= []:=by
    rw [List.eq_nil_iff_forall_not_mem];intro j hj;obtain⟨q1,q,q2,_⟩:=mem_ready.1 hj;have hjl:j < l.length:=by have:=(Array.getElem?_eq_some_iff.1 q2).1;simpa using this
    have:=hall j (by omega);rw [←hmL j hjl]at this;have hjm:j < m.size:=by omega
    simp only [Array.getD,hjm,dif_pos]at this q1;rw [this]at q1
    cases q1
   have hg:G a w:=by
    cases f with
    | zero=>exact hA.2
    | succ f=>exact hA.1 hr
   refine hnext l.length (Nat.le_refl _) hi (fun j hj=>hall j (by omega)) h4 a w ?_;rw [List.drop_left];exact hGs a w hg
  ·have hi:i < l.length:=by omega
   have hri:i∈Region.ready .any l.toArray m:=by
    rw [mem_ready];have him:i < m.size:=by omega
    refine⟨?_,o,by rw [hge i hi]at ho';simpa using ho',fun e he hb=>?_⟩
    ·have:=hmL i hi;rw [hLi]at this;simpa [Array.getD,him]using this
    ·have q:=hdeps e he hb;have q2:=a3w hdep2 i o ho e he hb;have hem:e.on < m.size:=by omega
     have:=hmL e.on (by omega);rw [q]at this;simpa [Array.getD,hem]using this
   cases f with
   | zero=>rw [hA.1]at hri;cases hri
   | succ f=>
     have hop:=hA.2 i hri;have hoi:l.toArray[i]?=some l[i]:=by simp [hi]
     have h3:wpOp P l.toArray T0 i (I (fun j=>if j=i then true else L j)) a w:=wpOp_mono (fun a' w' hh=>⟨hstep,.inl ⟨⟨f,m.setIfInBounds i true,by simpa using hms,fun j hj=>?_,hh.2⟩,fun j hj hl=>?_⟩⟩) hop
     ·refine c8r hoi ?_ ?_ h3
      ·simp only [List.getElem?_toArray];rw [hge i hi];simp [hi]
      ·have:=hgd2 i (l[i]) (by rw [hge i hi];simp [hi]);exact this
     ·dsimp only
      by_cases hji:j=i
      ·subst hji;rw [if_pos rfl];simp [Array.getD,hms,hi]
      ·rw [if_neg hji,getD_set_ne true (Ne.symm hji)];exact hmL j hj
     ·dsimp only
      rw [if_neg (by omega)];exact h4 j hj hl
 ·rintro L a w ⟨_,⟨_,h3⟩ | ⟨m,m1,m2,m3,m4,m5⟩⟩ hall
  ·have:=h3 l.length (Nat.le_refl _) (by simp;omega);rw [hall l.length (by simp;omega)]at this;cases this
  ·have:m=(l ++ tl).length:=by
    rcases Nat.lt_or_ge m (l ++ tl).length with h | h
    ·have h2:=m4 m (Nat.le_refl _) h;rw [hall m (by simpa using h)]at h2;cases h2
    ·omega
   subst this
   rwa [List.drop_length]at m5
 ·have hr:∀(n j:Nat),j < n→(Array.replicate n false).getD j true=false:=fun n j hj=>by
   rw [Array.getD_eq_getD_getElem?,Array.getElem?_replicate,if_pos hj];rfl
  have hf:∀(j:Nat),j < (l ++ tl).length→(Array.replicate (l ++ tl).toArray.size false).getD j true=false:=fun j hj=>hr _ j (by simpa using hj)
  refine⟨fun j o hj hl=>absurd ((hf j (List.getElem?_eq_some_iff.1 hj).1).symm.trans hl) (by simp),.inl ⟨⟨l.length,Array.replicate l.toArray.size false,by simp,fun j hj=>?_,h2⟩,fun j _ hl=>hf j hl⟩⟩;exact(hr _ j (by simpa using hj)).trans (hf j (by simp;omega)).symm
end
end Go.Txt
