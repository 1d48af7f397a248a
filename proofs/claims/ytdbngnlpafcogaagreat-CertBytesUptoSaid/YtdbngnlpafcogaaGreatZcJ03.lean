/-
  The ring: rows of keys: Clone, Index, Contains.
  The ring: New.
  The ring's laws: what must be answered ahead of everything else.
  An identity's keys: what an owner signs.
  The document's number: its eight bytes.
  Drawn statements: literals of parts that other operations gave.
  An identity's keys: an update in memory; Signed.
  An identity's keys: Signed, where the version is none; Make.
  An identity's keys: Make.
  The zero key's literal.
  Digests: a message in blocks of 64 bytes.
  Digests: words turned.
  Digests: what a block does: words of 32 bits, plain.
-/
import Derived.Test.YtdbngnlpafcogaaGreatZcRg4
import Derived.Test.YtdbngnlpafcogaaGreatZcJ02
import Derived.Test.YtdbngnlpafcogaaGreatZcFam
import Derived.Test.YtdbngnlpafcogaaGreatZcJ00
set_option maxRecDepth 100000
namespace Go.Proofs.YtdbngnlpafcogaaGreat
open Go.RowKit Go.Mem Go.Txt
theorem b9v(keys:List (List UInt8)):∀u∈keys.flatMap bv,u.oneCell'=true:=by
 intro u hu;obtain⟨k,_,hk⟩:=List.mem_flatMap.1 hu;exact a2x k u hk
theorem getD_eq{keys:List (List UInt8)}{i:Nat}(h:i < keys.length):keys.getD i []=keys[i]:=by simp [List.getD_eq_getElem?_getD,h]
set_option maxHeartbeats 1600000 in
theorem c9v(v:Value)(keys:List (List UInt8))(w:World)(hr:Rd w 32 v keys.length (keys.flatMap bv))(h0:0 < keys.length)(hx:keys.length≤1000000) :
 Calls Tryz.prog 125 #[v] w fun e w'=>∃v',e= .returned v'∧Rd w' 32 v' keys.length (keys.flatMap bv)∧Kept [] w w'∧∀k,v'.ownBlock=some k→w.heap.size≤k:=by
 obtain⟨b,o,c,rfl,_,_⟩:=hr.at_ h0;have H:=hjd hr;have qn:=c3h Tryz.underlying106 (some ⟨b,o,none⟩) keys.length c 0 0;clear hr;go_enter Tryz.func125,Tryz.ntmps125;go_wp2_with (at_builtin;refine a1q b0w rfl (.tmp 5) (.tmp 6) rfl rfl (xs:=[]) (n:=0) (Ow.c8t (b4a (by simp) rfl rfl (by omega))) rfl (H.out.alloc _) (b9v keys) ?_ ?_ ?_);case refine_1=>omega
 case refine_2=>omega
 intro v' w' hown hk hb
 go_wp2
 go_ret;refine⟨_,rfl,by simpa using Rd.a6w hown,Kept.fresh ((Kept.refl [] w).alloc _) hk (by simp [Value.ownBlock]),fun k hk2=>?_⟩;have hk3:v'.ownBlock=some k:=hk2;rcases hb with hb | hb
 ·rw [hb]at hk3;simp [Value.ownBlock]at hk3;omega
 ·rw [hb]at hk3;simp at hk3;omega
set_option maxHeartbeats 3200000 in
theorem d0m(v:Value)(keys:List (List UInt8))(k:List UInt8)(w:World)(hr:Rd w 32 v keys.length (keys.flatMap bv))(hk:k.length=32)(hl:∀x∈keys,x.length=32)(hx:keys.length≤1000000) :
 Calls Tryz.prog 174 #[v,ab k] w fun e w'=>∃c:Int,e= .returned (.int .i64 c)∧(0≤c↔k∈keys)∧Kept [] w w':=by
 obtain⟨KA,kc,rfl,_⟩:=id hr;have H:=hjd hr;have hk:=hjd hk;have hl:=hjd hl;clear hr;go_enter Tryz.func174,Tryz.ntmps174;go_wp2_with ((with_reducible refine a0f 3 ?_);(refine a0q (o:=⟨some 3,_,_,_,_,_⟩) (v:=ab k) rfl (.tmp 1) rfl rfl ?_);intro g3 w3 m3;have B3:=hjd (show Blk w3 g3 22 (bv k).toArray from m3.blk);have KK:=hjd m3.kept;replace H:=hjd (H.out.a0k m3.kept);clear m3);go_loopg [8] keys.length (fun f i wk=>∃j:Nat,j≤keys.length∧f + j=keys.length∧i= .int .i64 j∧Hid (k∉keys.take j)∧Kept [] w3 wk);case atStart=>exact⟨0,Nat.zero_le _,rfl,rfl,hjd (by simp),Kept.refl _ _⟩
 case round=>
  obtain⟨j,hj,hf,rfl,hno,hwk⟩:=hrel;by_cases hlt:j < keys.length
  ·obtain⟨pre,post,hpp,hpl⟩:=a8d hlt hl.out;obtain⟨kb,ko,c2,he2,_,_⟩:=H.out.at_ (by omega)
   cases he2
   have hkj:=hjd (hl.out (keys.getD j []) (by rw [getD_eq hlt];exact List.getElem_mem _));have hrng:=hjd (Rd.elem (i:=j) H.out hpp hpl (by omega));have Bk:=hjd (B3.out.kept hwk (by simp));have hrk:=hjd (Rd.elem (i:=j) (H.out.a0k hwk) hpp hpl (by omega));have hgd:=hjd (getD_eq hlt);generalize hky:keys.getD j []=key at *;replace hky:=hjd hky;obtain⟨bq,hbq⟩:∃bq:Bool,(k == key)=bq:=⟨_,rfl⟩;have q16:=d5w hbq hk.out hkj.out;have S0:(Blk wr g3 22 (bv k).toArray∧wr.rangeAt kb (ko + j * 32) (bv key)):=⟨Bk.out,hrk.out⟩;go_wp2_with fail;refine Txt.a1k [0,4,5] (fun u=>Blk u g3 22 (bv k).toArray∧u.rangeAt kb (ko + j * 32) (bv key)) [[_,_,_,_,_,_]] (by kernel_rfl) (by kernel_rfl) rfl S0 (Txt.a0e ?_);go_wp2_with (first
    | ((with_reducible refine a0f 11 ?_);refine a0d (cs:=(bv k).toArray) (o:=⟨some 11,_,_,_,_,_⟩) a2u.row rfl (.tmp 3) rfl rfl S0.1.drew (by simpa using hk.out) ?_)
    | ((with_reducible refine a0f 14 ?_);refine a4t (o:=⟨some 14,_,_,_,_,_⟩) b0w rfl (.tmp 12) (.tmp 13) rfl rfl rfl hlt ?_)
    | ((with_reducible refine a0f 15 ?_);refine a1i (o:=⟨some 15,_,_,_,_,_⟩) (cs:=bv key) a2u.row rfl (.tmp 14) rfl rfl S0.2 (by simpa using hkj.out) ?_))
   refine⟨rfl,S0,Txt.a0w ⟨⟨by kernel_rfl,?_⟩,?_⟩⟩
   ·intro j hj o ho hw;have hj2:j=0∨j=4∨j=5:=by simpa using hj
    rcases hj2 with rfl | rfl | rfl <;> cases ho
    ·exact⟨11,rfl,fun u hu=>a1c a2u.row (.tmp 3) rfl rfl hu.1 (by simpa using hk.out)⟩
    ·exact⟨15,rfl,fun u hu=>a5n a2u.row (.tmp 14) rfl rfl hu.2 (by simpa using hkj.out)⟩
    ·exact⟨16,rfl,fun u _=>c6m (.tmp 11) (.tmp 15) rfl rfl rfl hbq hk.out hkj.out⟩
   have K2:=hjd (KK.out.a0g hwk).drew;have hw2:=hjd hwk.drew;have hb2:=hjd hbq;clear S0 hbq q16 hwk
   cases bq with
   | true=>
     go_wp2_with fail
     go_ret;refine⟨(j:Int),rfl,⟨fun _=>?_,fun _=>by omega⟩,K2.out⟩;have:k=key:=by simpa using hb2.out
     rw [this,←hky.out,getD_eq hlt];exact List.getElem_mem _
   | false=>
     have hne:k≠key:=by simpa using hb2.out
     have hno2:=hjd (show k∉keys.take (j + 1)from by
      rw [List.take_succ_eq_append_getElem hlt,←getD_eq hlt,hky.out];simp only [List.mem_append,List.mem_singleton];rintro(h | h)
      ·exact hno.out h
      ·exact hne h)
     go_wp2_with fail
     go_roundg (keys.length - (j + 1));case measure=>omega
     case rel=>exact⟨j + 1,by omega,by omega,by go_num,hno2,hw2.out⟩
  ·obtain rfl:j=keys.length:=by omega
   have hno2:=hjd (show k∉keys from by have:=hno.out;rwa [List.take_length]at this);have K2:=hjd (KK.out.a0g hwk);clear hwk;go_wp2_with fail;go_ret;exact⟨-1,rfl,⟨fun h=>absurd h (by decide),fun h=>absurd h hno2.out⟩,K2.out⟩
set_option maxHeartbeats 1600000 in
theorem d1u(v:Value)(keys:List (List UInt8))(k:List UInt8)(w:World)(hr:Rd w 32 v keys.length (keys.flatMap bv))(hk:k.length=32)(hl:∀x∈keys,x.length=32)(hx:keys.length≤1000000) :
 Calls Tryz.prog 169 #[v,ab k] w fun e w'=>e= .returned (.bool (decide (k∈keys)))∧Kept [] w w':=by
 obtain⟨KA,kc,rfl,_⟩:=id hr;have H:=hjd hr;have ci:=hjd (fun u (h:Rd u 32 (.slice KA keys.length kc) keys.length (keys.flatMap bv))=>d0m _ keys k u h hk hl hx);have hk:=hjd hk;clear hr hl;go_enter Tryz.func169,Tryz.ntmps169;go_wp2_with (first
  | ((with_reducible refine a0f 3 ?_);(refine a0q (o:=⟨some 3,_,_,_,_,_⟩) (v:=ab k) rfl (.tmp 1) rfl rfl ?_);intro g3 w3 m3;have B3:=hjd (show Blk w3 g3 22 (bv k).toArray from m3.blk);have KK:=hjd m3.kept;replace H:=hjd (H.out.a0k m3.kept);clear m3)
  | ((with_reducible refine a0f 6 ?_);refine a0d (cs:=(bv k).toArray) (o:=⟨some 6,_,_,_,_,_⟩) a2u.row rfl (.tmp 3) rfl rfl B3.out (by simpa using hk.out) ?_)
  | (go_at_call 174;(with_reducible refine(ci.out _ H.out).mono ?_);rintro e v7 ⟨c,rfl,hc,k7⟩;have K7:=hjd (KK.out.a0g k7);have hc:=hjd hc;clear k7))
 go_ret;exact⟨by rw [show decide (k∈keys)=decide (0≤c)from decide_eq_decide.2 hc.out.symm];rfl,K7.out⟩
end Go.Proofs.YtdbngnlpafcogaaGreat
namespace Go.Proofs.YtdbngnlpafcogaaGreat
open Go.RowKit Go.Mem Go.Txt
theorem d5c{keys:List (List UInt8)}(h:∀k∈keys,k.length=32):∀j,j≤keys.length→(keys.flatMap bv).take (j * 32)=(keys.take j).flatMap bv:=by
 induction keys with
 | nil=>intro j hj;simp
 | cons a l ih=>
   intro j hj
   cases j with
   | zero=>simp
   | succ j=>
     have ha:=h a (by simp);rw [List.flatMap_cons,List.take_succ_cons,List.flatMap_cons,←ih (fun k hk=>h k (List.mem_cons_of_mem _ hk)) j (by simpa using hj)];rw [List.take_append,List.take_of_length_le (by simp [ha];omega)];simp [ha,show(j + 1) * 32 - 32=j * 32 from by omega]
theorem d0x{keys:List (List UInt8)}{j:Nat}(h:j < keys.length)(hn:(keys.take j).Nodup)(hk:keys.getD j []∉keys.take j):(keys.take (j + 1)).Nodup:=by
 rw [List.take_succ_eq_append_getElem h,←getD_eq h];refine List.nodup_append.2 ⟨hn,by simp,?_⟩;intro a ha b hb;rw [List.mem_singleton.1 hb];rintro rfl;exact hk ha
theorem d2b{keys:List (List UInt8)}{j:Nat}(h:j < keys.length)(hk:keys.getD j []∈keys.take j):¬keys.Nodup:=by
 intro hn;rw [←List.take_append_drop j keys]at hn;have hd:=(List.nodup_append.1 hn).2.2;refine hd _ hk _ ?_ rfl;rw [List.drop_eq_getElem_cons h,getD_eq h];exact List.mem_cons_self
set_option maxHeartbeats 3200000 in
theorem d9b(v:Value)(keys:List (List UInt8))(w:World)(hr:Rd w 32 v keys.length (keys.flatMap bv))(hl:∀x∈keys,x.length=32)(hx:keys.length≤1000000)(h3:keys.length % 3=1)(h7:keys.length≤7) :
 Calls Tryz.prog 144 #[v] w fun e w'=>(¬keys.Nodup∧e= .returned (.tuple #[.pointer none,.int .i64 2])∧Kept [] w w')∨(keys.Nodup∧∃r b kv,e= .returned (.tuple #[.pointer (some ⟨r,0,none⟩),.int .i64 0])∧Rg w' r kv keys b (.map [])∧Kept [] w w'∧w.heap.size≤b∧∀k,kv.ownBlock=some k→w.heap.size≤k):=by
 obtain⟨kb,ko,kc,rfl,hkc,_⟩:=hr.at_ (by omega);have cl:=hjd (fun u h=>c9v (.slice (some ⟨kb,ko,none⟩) keys.length kc) keys u h (by omega) hx);have H:=hjd hr;have hl:=hjd hl;have hfew:=hjd h7;have e3:((keys.length:Int).tmod 3=1):=by rw [Int.tmod_eq_emod_of_nonneg (by omega)];omega
 have e7:¬((7:Int) < (keys.length:Int)):=by omega
 have hp:=hjd (show 0 < keys.length by omega);clear hr h3 h7;go_enter Tryz.func144,Tryz.ntmps144;go_wp2_with fail;go_loopg [18] keys.length (fun f i wk=>∃j:Nat,j≤keys.length∧f + j=keys.length∧i= .int .i64 j∧Hid ((keys.take j).Nodup)∧Kept [] w wk);case atStart=>exact⟨0,Nat.zero_le _,rfl,rfl,hjd (by simp),Kept.refl _ _⟩
 case round=>
  obtain⟨j,hj,hf,rfl,hnd,hwk⟩:=hrel;by_cases hlt:j < keys.length
  ·obtain⟨pre,post,hpp,hpl⟩:=a8d hlt hl.out;have hkj:=hjd (hl.out (keys.getD j []) (by rw [getD_eq hlt];exact List.getElem_mem _));have hrk:=hjd (Rd.elem (i:=j) (H.out.a0k hwk) hpp hpl (by omega));have hB:=d5z (g:=kb) (off:=ko) (n:=keys.length) b0w .i64 (k:=j) (c:=kc) (by omega);have hlj:(keys.take j).length=j:=by rw [List.length_take];omega
   have hRj:=hjd (fun u (hu:Rd u 32 (.slice (some ⟨kb,ko,none⟩) keys.length kc) keys.length (keys.flatMap bv))=>(show Rd u 32 (.slice (some ⟨kb,ko,none⟩) j kc) (keys.take j).length ((keys.take j).flatMap bv)from by
    obtain⟨B,d,h1,h2,_,_⟩:=cut_to b0w hu .i64 j (by omega);have:=h1 u;rw [hB]at this
    cases this
    rw [hlj,←d5c hl.out j (by omega)];exact h2))
   have hcc:=hjd (fun u (hu:Rd u 32 (.slice (some ⟨kb,ko,none⟩) keys.length kc) keys.length (keys.flatMap bv))=>d1u (.slice (some ⟨kb,ko,none⟩) j kc) (keys.take j) (keys.getD j []) u (hRj.out u hu) hkj.out (fun x hx=>hl.out x (List.mem_of_mem_take hx)) (by rw [hlj];omega));have hs1:=hjd (d0x hlt hnd.out);have hs2:=hjd (d2b hlt);have hwk2:=hjd hwk;obtain⟨bq,hbq⟩:∃bq:Bool,decide (keys.getD j []∈keys.take j)=bq:=⟨_,rfl⟩;replace hbq:=hjd hbq;have hcc2:=hjd (fun u hu=>by have:=hcc.out u hu;rw [hbq.out]at this;exact this);generalize hky:keys.getD j []=key at *;clear hRj hlj hcc hwk hpp hpl hky;go_wp2_with (first
    | ((with_reducible refine a0f 21 ?_);refine a4t (o:=⟨some 21,_,_,_,_,_⟩) b0w rfl (.tmp 16) (.tmp 18) rfl rfl rfl hlt ?_)
    | ((with_reducible refine a0f 22 ?_);refine a1i (o:=⟨some 22,_,_,_,_,_⟩) (cs:=bv key) a2u.row rfl (.tmp 21) rfl rfl hrk.out (by simpa using hkj.out) ?_)
    | ((with_reducible refine a0f 6 ?_);(refine a0h (o:=⟨some 6,_,_,_,_,_⟩) rfl rfl a8l ?_);intro g6 w6 m6;have M6:=hjd m6;clear m6)
    | (refine a0a (cs:=(bv key).toArray) (o:=⟨none,Op.store 22 (.tmp 6) (.tmp 22),_,_,_,_⟩) a2u.row rfl (.tmp 6) (.tmp 22) rfl rfl rfl M6.out.blk (by rfl) (by simpa using hkj.out) (a3o _) ?_;intro wb6 b6 k6;have kk:=M6.out.kept.a0r k6 M6.out.le;have B6:=hjd b6;replace hwk2:=hjd (hwk2.out.a0g kk);clear b6 k6 kk M6 hrk))
   have H6:=hjd (H.out.a0k hwk2.out.drew);refine Txt.a2g (by kernel_rfl) (by kernel_rfl) ?_;go_wp2_with (first
    | ((with_reducible refine a0f 26 ?_);refine a0d (cs:=(bv key).toArray) (o:=⟨some 26,_,_,_,_,_⟩) a2u.row rfl (.tmp 6) rfl rfl B6.out.drew (by simpa using hkj.out) ?_)
    | (go_at_call 169;(with_reducible refine(hcc2.out _ H6.out).mono ?_);rintro e v27 ⟨rfl,k27⟩;have K27:=hjd (hwk2.out.a0g k27.a1r);clear k27))
   refine⟨rfl,by kernel_rfl,?_⟩
   cases bq with
   | true=>
     go_wp2_with fail
     go_ret2
     exact .inl ⟨hs2.out (by simpa using hbq.out),rfl,K27.out⟩
   | false=>
     have hnx:=hjd (hs1.out (by simpa using hbq.out));go_wp2_with fail;go_roundg (keys.length - (j + 1));case measure=>omega
     case rel=>exact⟨j + 1,by omega,by omega,by go_num,hnx,K27.out⟩
  ·obtain rfl:j=keys.length:=by omega
   have hno2:=hjd (show keys.Nodup from by have:=hnd.out;rwa [List.take_length]at this);have K2:=hjd hwk;have H2:=hjd (H.out.a0k hwk);clear hwk;go_wp2_with (first
    | (go_at_call 125;(with_reducible refine(cl.out _ H2.out).mono ?_);rintro e v30 ⟨kv,rfl,r30,k30,f30⟩;have F30:=hjd (fun k h=>Nat.le_trans K2.out.size (f30 k h));clear f30;obtain⟨KA2,kc2,rfl,_⟩:=id r30;have R30:=hjd r30;have mk:=run_makeMap (P:=Tryz.prog) 218;have K30:=hjd (K2.out.a0g k30);clear r30 k30)
    | ((with_reducible refine a0f 33 ?_);have KM:=hjd ((Kept.refl [] v30).alloc (.map #[] 0));have MM:=hjd (show oM (v30.alloc (.map #[] 0)) v30.heap.size 0 (.map [])from World.ownsMap_made v30 _ _ _);refine a0q (o:=⟨some 33,_,_,_,_,_⟩) (v:=.agg #[.slice KA2 keys.length kc2,.map (some v30.heap.size)]) rfl (.tmp 32) rfl rfl ?_;intro g33 w33 m33;have M33:=hjd m33;clear m33))
   go_ret2
   have kk:=KM.out.a0g M33.out.kept;refine .inr ⟨hno2.out,_,_,_,rfl,⟨M33.out.blk,R30.out.a0k kk,hl.out,hfew.out,⟨0,MM.out.kept M33.out.kept (by simp)⟩,fun s=>.inl rfl,Maps.isMap_empty⟩,K30.out.a0g kk,K30.out.size,F30.out⟩
end Go.Proofs.YtdbngnlpafcogaaGreat
namespace Go.Proofs.YtdbngnlpafcogaaGreat
open Go.RowKit Go.Mem Go.Txt
theorem d1c{w:World}{r b:Nat}{kv:Value}{keys:List (List UInt8)}{D:DU}(h:Rg w r kv keys b D) :
 Calls Tryz.prog 170 #[.pointer (some ⟨r,0,none⟩)] w fun e w'=>e= .returned (.int .i64 ((keys.length / 3:Nat):Int))∧w'=w:=by
 have cs:=hjd (a6h h);have e3:((keys.length:Int).tdiv 3)=((keys.length / 3:Nat):Int):=by rw [Int.tdiv_eq_ediv_of_nonneg (by omega)];omega
 have hw:keys.length≤7:=h.few;clear h;go_enter Tryz.func170,Tryz.ntmps170;go_wp2_with (go_at_call 148;(with_reducible refine cs.out.mono ?_);rintro e v ⟨rfl,rfl⟩);go_ret;refine⟨?_,rfl⟩;simp
theorem d1d{w:World}{r b:Nat}{kv:Value}{keys:List (List UInt8)}{D:DU}(h:Rg w r kv keys b D) :
 Calls Tryz.prog 146 #[.pointer (some ⟨r,0,none⟩)] w fun e w'=>e= .returned (.int .i64 ((2 * (keys.length / 3) + 1:Nat):Int))∧w'=w:=by
 have cs:=hjd (d1c h);obtain⟨f,hf⟩:∃f,f=keys.length / 3:=⟨_,rfl⟩;have hw:f≤7:=by have:=h.few;omega
 rw [←hf]at cs ⊢;clear h hf;go_enter Tryz.func146,Tryz.ntmps146;go_wp2_with (go_at_call 170;(with_reducible refine cs.out.mono ?_);rintro e v ⟨rfl,rfl⟩);go_ret;refine⟨?_,rfl⟩;simp
theorem lit_b{w:World}{g:Nat}{a:UInt8}{cs:Array Value}{fr:Nat × Nat}(hg:g=w.heap.size)(hc:cs=(bv [a]).toArray):a1o [a] (.slice (some ⟨g,0,none⟩) 1 1) (w.alloc (.cells cs 5 fr)):=by
 subst hg hc;exact Rd.c6x rfl rfl (by simp) (by simp)
theorem d3g{w:World}{g:Nat}{t:TypeId}{K:List UInt8}(hb:Blk w g t (bv K).toArray)(hK:K.length=32):Rd w 32 (.slice (some ⟨g,0,none⟩) 1 1) [K].length ([K].flatMap bv):=
 ⟨_,_,rfl,by simp [hK],by simp,fun _=>⟨g,0,rfl,fun j u hu=>by rw [hb.cell,Nat.zero_add];simpa using hu⟩⟩
end Go.Proofs.YtdbngnlpafcogaaGreat
namespace Go.Proofs.YtdbngnlpafcogaaGreat
open Go.RowKit Go.Mem Go.Txt
theorem e2x{w:World}{g:Nat}{t:TypeId}{v1 v2:Value}{x1 x2:List UInt8}(hb:Blk w g t #[v1,v2])(h1:a1o x1 v1 w)(h2:a1o x2 v2 w):Parts w (.slice (some ⟨g,0,none⟩) 2 2) [(v1,x1),(v2,x2)]:=by
 refine⟨⟨_,_,rfl,rfl,Nat.le_refl _,fun _=>⟨g,0,rfl,fun j u hu=>?_⟩⟩,?_⟩
 ·rw [hb.cell,Nat.zero_add];simpa using hu
 ·intro x hx;rcases List.mem_cons.1 hx with rfl | hx
  ·exact h1
  ·rcases List.mem_cons.1 hx with rfl | hx
   ·exact h2
   ·cases hx
def b8l(v:Int):Nat:=(v % 18446744073709551616).toNat
theorem d2x(v:Int):b8l v < 18446744073709551616:=by unfold b8l;omega
end Go.Proofs.YtdbngnlpafcogaaGreat
namespace Go.Proofs.YtdbngnlpafcogaaGreat
open Go.RowKit Go.Mem Go.Txt
def tl8(v m i:Nat):UInt8:=if m≤i then UInt8.ofNat (v / 256 ^ (7 - i))else 0
theorem e4p(v:Nat):fam 8 (tl8 v 0)=be8 v:=by
 unfold fam be8;apply List.map_congr_left;intro i _;unfold tl8;rw [if_pos (Nat.zero_le _)]
theorem e1i(v:Nat):fam 8 (tl8 v 8)=a0m 8:=rfl
theorem mkb(n:Nat)(h:n≤1000):∃Z:Array Value,Z=(bv (a0m n)).toArray∧∀W:World,(Instr.makeSlice 23 (.int .i64 n) (.int .i64 n)).run Tryz.prog W= .ok (.slice (some ⟨W.heap.size,0,none⟩) n n) (W.alloc (.cells Z 5)):=by
 refine⟨madeCells #[.int .u8 0] n,Array.toList_inj.1 (d6s n),fun W=>?_⟩;exact run_mk a1x n (by omega) (by omega) W
theorem c9z{w w':World}{g:Nat}{xs:List UInt8}(h:Blk w' g 5 (bv xs).toArray)(hk:Kept [] w w')(hg:w.heap.size≤g)(hl:xs.length≤1000):New w w' (.slice (some ⟨g,0,none⟩) xs.length xs.length) xs:=by
 refine⟨Ow.c8t ⟨by simp,.inr ⟨g,xs.length,(bv xs).toArray,rfl,Nat.zero_le _,h,Nat.le_refl _,by simp only [maxLen];omega,by simp,by rw [Nat.mul_one];exact List.take_of_length_le (by simp)⟩⟩,hk,.inr ⟨g,rfl,hg⟩⟩
set_option maxHeartbeats 1600000 in
theorem b0z(v:Nat)(w:World)(hv:v < 18446744073709551616) :
 Calls Tryz.prog 65 #[.int .u64 v] w fun e w'=>∃v',e= .returned v'∧New w w' v' (be8 v):=by
 obtain⟨Z,hZ,hmk⟩:=mkb 8 (by omega);have hmk8:∀W:World,(Instr.makeSlice 23 (.int .i64 8) (.int .i64 8)).run Tryz.prog W= .ok (.slice (some ⟨W.heap.size,0,none⟩) 8 8) (W.alloc (.cells Z 5)):=hmk;have H0:=hjd (show Blk (w.alloc (.cells Z 5)) w.heap.size 5 (bv (fam 8 (tl8 v 8))).toArray from by rw [e1i,←hZ];exact Blk.new _ _ _);have K0:=hjd ((Kept.refl [] w).alloc (.cells Z 5));have hvh:=hjd hv;clear hZ hmk hv;go_enter Tryz.func65,Tryz.ntmps65;go_wp2_with fail;generalize w.alloc (.cells Z 5)=wa at *;obtain⟨g,hg⟩:∃g,g=w.heap.size:=⟨_,rfl⟩;rw [←hg]at H0 ⊢;replace hg:=hjd hg;go_loopg [4,0] 8 (fun f i x wk=>∃m:Nat,f=m∧m≤8∧i= .int .i64 ((m:Int) - 1)∧x= .int .u64 ((v / 256 ^ (8 - m):Nat):Int)∧Blk wk g 5 (bv (fam 8 (tl8 v m))).toArray∧Kept [g] wa wk);case atStart=>exact⟨8,rfl,Nat.le_refl _,rfl,by simp,H0.out,Kept.refl _ _⟩
 case round=>
  obtain⟨m,hf,hm,rfl,rfl,hb,hkw⟩:=hrel;have H:=hjd hb;have HK:=hjd hkw;clear hb hkw;by_cases hm0:0 < m
  ·have hi0:(0:Int)≤(m:Int) - 1:=by omega
   have hi1:(1:Int)≤(m:Int):=by omega
   have e0:=Blk.a8v (v:=a1z) H.out (m - 1) (by omega);have z0:=Blk.frozen H.out (m - 1);have hx:v / 256 ^ (8 - m) < 18446744073709551616:=Nat.lt_of_le_of_lt (Nat.div_le_self _ _) hvh.out;have hn:v / 256 ^ (8 - (m - 1))=v / 256 ^ (8 - m) / 256:=by rw [show 8 - (m - 1)=(8 - m) + 1 from by omega,Nat.pow_succ,Nat.div_div_eq_div_mul]
   have hs:=Blk.e6l (v:=a1z) H.out (m - 1) (UInt8.ofNat (v / 256 ^ (8 - m)));have he:fam 8 (fun j=>if j=m - 1 then UInt8.ofNat (v / 256 ^ (8 - m))else tl8 v m j)=fam 8 (tl8 v (m - 1)):=a5x 8 fun i hi=>by
    unfold tl8;by_cases h:i=m - 1
    ·rw [if_pos h,if_pos (by omega),show 7 - i=8 - m from by omega]
    ·rw [if_neg h];by_cases h2:m≤i
     ·rw [if_pos h2,if_pos (by omega)]
     ·rw [if_neg h2,if_neg (by omega)]
   rw [he]at hs;have F:=hjd hs;have FK:=hjd (HK.out.setCell (p:=⟨g,m - 1,none⟩) (.inl (by simp)) (a1z (UInt8.ofNat (v / 256 ^ (8 - m)))));unfold a1z at F FK;rw [UInt8.toNat_ofNat',show(((v / 256 ^ (8 - m) % 2 ^ 8:Nat)):Int)=((v / 256 ^ (8 - m):Nat):Int) % 256 from by omega]at F FK;replace hn:=hjd hn;generalize v / 256 ^ (8 - m)=x at *;clear hs he;go_wp2_with fail;go_roundg (m - 1);case measure=>omega
   case rel=>exact⟨m - 1,rfl,by omega,by go_num,by rw [hn.out];simp,F.out,FK.out⟩
  ·obtain rfl:m=0:=by omega
   have hb:=H.out;rw [e4p]at hb;go_wp2_with fail;go_ret;refine⟨_,rfl,?_⟩;have:=c9z hb (K0.out.a0r HK.out (by rw [hg.out];exact Nat.le_refl _)) (by rw [hg.out];exact Nat.le_refl _) (by rw [a2h];omega)
   rwa [a2h]at this
end Go.Proofs.YtdbngnlpafcogaaGreat
namespace Go.Proofs.YtdbngnlpafcogaaGreat
open Go.RowKit Go.Mem Go.Txt
section
variable {l:List Oper} {vs:List Rel} {a0:Act} {w0:World} {o:Oper}
def isP3(m1 m2 m3:List UInt8):Rel:=fun v w=>∃p1 p2 p3,Parts w v [(p1,m1),(p2,m2),(p3,m3)]
theorem isP3.a0k{m1 m2 m3:List UInt8}{v:Value}{w w':World}(h:isP3 m1 m2 m3 v w)(k:Kept [] w w'):isP3 m1 m2 m3 v w':=let⟨p1,p2,p3,hp⟩:=h;⟨p1,p2,p3,Parts.a0k hp k⟩
end
end Go.Proofs.YtdbngnlpafcogaaGreat
namespace Go.Proofs.YtdbngnlpafcogaaGreat
open Go.RowKit Go.Mem Go.Txt
theorem a4h{P:Program}{u:World}{a:Act}{o:Oper}{t:TypeId}(x:Operand)(ho:o.op= .load t x)(hs:∀w,(isAgg t).run P w= .ok false w){p:Addr}(hx:a.eval x= .pointer (some p)){v:Value}(hc:u.cell? p=some v) :
 (execOp a.eval o).run P u= .ok (.value v) u:=by
 simp [execOp,ho,hx,Instr.loadAt,Instr.sureAddr,loadVar,hs,hc]
end Go.Proofs.YtdbngnlpafcogaaGreat
namespace Go.Proofs.YtdbngnlpafcogaaGreat
open Go.RowKit Go.Mem Go.Txt
theorem as_map{n:Nat}{l:List UInt8}(h:l.length=n):l=(List.range n).map fun i=>l.getD i 0:=by
 apply List.ext_getElem (by simp [h]);intro i h1 h2;simp [List.getD_eq_getElem?_getD,h1]
end Go.Proofs.YtdbngnlpafcogaaGreat
namespace Go.Proofs.YtdbngnlpafcogaaGreat
open Go.RowKit Go.Mem Go.Txt
end Go.Proofs.YtdbngnlpafcogaaGreat
namespace Go.Proofs.YtdbngnlpafcogaaGreat
open Go.RowKit Go.Mem Go.Txt
theorem lit0_v:Value.agg #[.int .u8 0,.int .u8 0,.int .u8 0,.int .u8 0,.int .u8 0,.int .u8 0,.int .u8 0,.int .u8 0,.int .u8 0,.int .u8 0,.int .u8 0,.int .u8 0,.int .u8 0,.int .u8 0,.int .u8 0,.int .u8 0,.int .u8 0,.int .u8 0,.int .u8 0,.int .u8 0,.int .u8 0,.int .u8 0,.int .u8 0,.int .u8 0,.int .u8 0,.int .u8 0,.int .u8 0,.int .u8 0,.int .u8 0,.int .u8 0,.int .u8 0,.int .u8 0]=ab (a0m 32):=rfl
end Go.Proofs.YtdbngnlpafcogaaGreat
namespace Go.Proofs.YtdbngnlpafcogaaGreat
open Go.RowKit Go.Mem Go.Txt
def pzS(n:Nat):Nat:=(119 - n % 64) % 64
def pad(m:List UInt8):List UInt8:=(m ++ 128 :: List.replicate (pzS m.length) 0) ++ be8 (8 * m.length)
theorem d1v(n:Nat):pzS n < 64:=Nat.mod_lt _ (by decide)
theorem d5i{n j:Nat}(h:j≤pzS n):((n + 1 + j + 8) % 64=0)↔j=pzS n:=by unfold pzS at *;omega
theorem c5h(m:List UInt8):(pad m).length % 64=0:=by
 unfold pad;rw [List.length_append,List.length_append,List.length_cons,List.length_replicate,a2h];unfold pzS;omega
set_option maxHeartbeats 1600000 in
theorem b3q(pv:Value)(ps:List (Value × List UInt8))(w:World)(hp:Parts w pv ps)(hn:ps.length≤9223372036854775807)(hl:(a0z ps).length≤1000000000000) :
 Calls Tryz.prog 131 #[pv,.int .i64 64] w fun e w'=>∃v',e= .returned v'∧New w w' v' (pad (a0z ps)):=by
 have cc:=hjd (b3e pv ps w hp hn (by omega));clear hp;generalize a0z ps=m at *;go_enter Tryz.func131,Tryz.ntmps131;go_wp2_with (first
  | (go_at_call 128;(with_reducible refine(cc.out).mono ?_);rintro e w1 ⟨ov,rfl,h⟩;obtain⟨A,c,rfl,_⟩:=h.ow.shape;have H:=hjd h;clear h)
  | ((with_reducible refine a0f 14 ?_);(refine a1a (o:=⟨some 14,_,_,_,_,_⟩) (v0:=.int .u8 128) (cells:=(bv [128]).toArray) rfl a1x rfl rfl (by decide) rfl rfl ?_);intro g7 w7 m7;have b7:=hjd (show Rd w7 1 (.slice (some ⟨g7,0,none⟩) 1 1) 1 (bv [128])from⟨_,_,rfl,rfl,by omega,fun _=>⟨g7,0,rfl,fun j u hu=>by rw [m7.blk.cell];simpa using hu⟩⟩);have k7:=hjd m7.kept;clear m7)
  | (at_builtin;refine a1q (n:=m.length) (m:=1) a1x rfl (.tmp 13) (.tmp 14) rfl rfl (H.out.ow.a0k k7.out) rfl b7.out (a2x _) (by omega) (by omega) ?_;intro v' w9 o9 k9 f9;obtain⟨A2,c2,hv',hlc'⟩:=o9.shape;subst hv';replace H:=hjd (H.out.c2d k7.out o9 k9 f9);clear o9 k9 f9 k7 b7))
 have hl2:=hjd hl;go_loopg [5] (pzS m.length) (fun fu o wk=>∃(j:Nat) (A:Option Addr) (c:Nat),j≤pzS m.length∧fu + j=pzS m.length∧o= .slice A (m.length + 1 + j) c∧Hid (New w wk (.slice A (m.length + 1 + j) c) (m ++ 128 :: List.replicate j 0)));case atStart=>exact⟨0,A2,c2,by omega,by omega,rfl,H⟩
 case round=>
  clear H;obtain⟨j,A,c,hj,hfu,rfl,H⟩:=hrel;have hz:=d1v m.length;by_cases hlt:j < pzS m.length
  ·have hne:¬(m.length + 1 + j + 8) % 64=0:=fun e=>by have:=(d5i hj).1 e;omega
   generalize hL:m.length + 1 + j=L at *;have hne1:(((L:Int) + 8) % 64=0)=False:=eq_false (by omega);have hne2:(((L:Int) + 8).tmod 64=0)=False:=eq_false (by rw [Int.tmod_eq_emod_of_nonneg (by omega)];omega);have hLs:L≤1000000000100:=by omega
   go_wp2_with (first
    | ((with_reducible refine a0f 25 ?_);(refine a1a (o:=⟨some 25,_,_,_,_,_⟩) (v0:=.int .u8 0) (cells:=(bv [0]).toArray) rfl a1x rfl rfl (by decide) rfl rfl ?_);intro g7 w7 m7;have b7:=hjd (show Rd w7 1 (.slice (some ⟨g7,0,none⟩) 1 1) 1 (bv [0])from⟨_,_,rfl,rfl,by omega,fun _=>⟨g7,0,rfl,fun j u hu=>by rw [m7.blk.cell];simpa using hu⟩⟩);have k7:=hjd m7.kept;clear m7)
    | (at_builtin;refine a1q (n:=L) (m:=1) a1x rfl (.tmp 24) (.tmp 25) rfl rfl (by have:=H.out.ow.a0k k7.out;have e:(m ++ 128 :: List.replicate j 0).length=L:=(by simp;omega);rw [e]at this;exact this) rfl b7.out (a2x _) (by omega) (by omega) ?_;intro v' w9 o9 k9 f9;have e:(m ++ 128 :: List.replicate j 0).length=L:=by simp;omega
       obtain⟨A3,c3,hv',hlc'⟩:=o9.shape;subst hv';replace H:=hjd (H.out.c2d k7.out (by rw [e];exact o9) k9 f9);clear o9 k9 f9 k7 b7 e))
   go_roundg (pzS m.length - (j + 1));case measure=>omega
   case rel=>
    have e:m ++ 128 :: List.replicate (j + 1) 0=(m ++ 128 :: List.replicate j 0) ++ [0]:=by simp [List.replicate_succ']
    refine⟨j + 1,A3,c3,by omega,by omega,by rw [←hL];rfl,?_⟩;rw [e,show m.length + 1 + (j + 1)=L + 1 from by omega];exact H
  ·obtain rfl:j=pzS m.length:=by omega
   have heq:=(d5i hj).2 rfl;generalize hL:m.length + 1 + pzS m.length=L at *;have heq1:(((L:Int) + 8) % 64=0):=by omega
   have heq2:(((L:Int) + 8).tmod 64=0):=by rw [Int.tmod_eq_emod_of_nonneg (by omega)];omega
   have hLs:L≤1000000000100:=by omega
   have e:(m ++ 128 :: List.replicate (pzS m.length) 0).length=L:=by simp;omega
   have ep:pad m=(m ++ 128 :: List.replicate (pzS m.length) 0) ++ be8 (8 * m.length):=rfl;replace ep:=hjd ep;generalize m ++ 128 :: List.replicate (pzS m.length) 0=M0 at *;have q8:IntKind.u64.wrap (8 * (m.length:Int))=((8 * m.length:Nat):Int):=by rw [IntKind.wrap_u64];omega
   generalize 8 * m.length=q at *;subst e;go_wp2_with (first
    | (at_builtin;refine a9f a1x rfl rfl Tryz.underlying3 rfl (.tmp 27) (.tmp 30) rfl rfl H.out.ow 0 rfl (by omega) (by omega) ?_;intro v' w9 o9 k9 f9;obtain⟨A2,c2,hv',hlc'⟩:=o9.shape;subst hv'
       replace H:=hjd (show New w w9 (.slice A2 M0.length c2) M0 from H.out.step (by simpa using o9) k9 H.out.old (by
        rcases f9 with e | e
        ·exact .inl e
        ·exact .inr ⟨_,e,H.out.kept.size⟩))
       clear o9 k9 f9))
   clear heq1 heq2 heq;go_loopg [5,7] 8 (fun fu o i wk=>∃(j:Nat) (A:Option Addr) (c:Nat),j≤8∧fu + j=8∧i= .int .i64 (56 - 8 * (j:Int))∧o= .slice A (M0.length + j) c∧Hid (New w wk (.slice A (M0.length + j) c) (M0 ++ (be8 q).take j)));case atStart=>exact⟨0,A2,c2,by omega,by omega,rfl,rfl,by simpa using H⟩
   case round=>
    clear H;obtain⟨j,A,c,hj8,hfu8,rfl,rfl,H⟩:=hrel;have el:(M0 ++ (be8 q).take j).length=M0.length + j:=by rw [List.length_append,List.length_take,a2h];omega
    by_cases hlt8:j < 8
    ·have h0:(0:Int)≤56 - 8 * (j:Int):=by omega
     have hb8:=c0n q j hlt8;have hbt:=b9h q j hlt8;generalize UInt8.ofNat (q / 256 ^ (7 - j))=x at *;replace hbt:=hjd hbt;replace el:=hjd el;have hb9:=hjd hb8;clear hb8;go_wp2_with (first
      | ((with_reducible refine a0f 43 ?_);(refine a1a (o:=⟨some 43,_,_,_,_,_⟩) (v0:=a1z x) (cells:=(bv [x]).toArray) rfl a1x rfl hb9.out (by decide) rfl rfl ?_);intro g7 w7 m7;have b7:=hjd (show Rd w7 1 (.slice (some ⟨g7,0,none⟩) 1 1) 1 (bv [x])from⟨_,_,rfl,rfl,by omega,fun _=>⟨g7,0,rfl,fun j u hu=>by rw [m7.blk.cell];simpa using hu⟩⟩);have k7:=hjd m7.kept;clear m7)
      | (at_builtin;refine a1q (n:=M0.length + j) (m:=1) a1x rfl (.tmp 36) (.tmp 43) rfl rfl (by have:=H.out.ow.a0k k7.out;rw [el.out]at this;exact this) rfl b7.out (a2x _) (by omega) (by omega) ?_;intro v' w9 o9 k9 f9;obtain⟨A3,c3,hv',hlc'⟩:=o9.shape;subst hv';replace H:=hjd (H.out.c2d k7.out (by rw [el.out];exact o9) k9 f9);clear o9 k9 f9 k7 b7))
     go_roundg (8 - (j + 1));case measure=>omega
     case rel=>
      refine⟨j + 1,A3,c3,by omega,by omega,by go_num,rfl,?_⟩;rw [hbt.out,←List.append_assoc];exact H
    ·obtain rfl:j=8:=by omega
     have et:(be8 q).take 8=be8 q:=List.take_of_length_le (by rw [a2h];omega);rw [et]at H;clear el et;go_wp2_with fail;go_ret;rw [ep.out];exact⟨_,rfl,H.out⟩
end Go.Proofs.YtdbngnlpafcogaaGreat
namespace Go.Proofs.YtdbngnlpafcogaaGreat
open Go.RowKit Go.Mem Go.Txt
abbrev W32(x:BitVec 32):Value:=.int .u32 (x.toNat:Int)
theorem ofInt32(x:BitVec 32):BitVec.ofInt 32 (x.toNat:Int)=x:=by
 apply BitVec.eq_of_toNat_eq;rw [BitVec.toNat_ofInt];have:=x.isLt;omega
theorem c0k(x:BitVec 32):IntKind.u32.wrap (x.toNat:Int)=x.toNat:=by
 have:=x.isLt;rw [IntKind.wrap_u32];omega
theorem b5h(x y:BitVec 32):bits .xor .u32 (x.toNat:Int) (y.toNat:Int)=((x ^^^ y).toNat:Nat):=by
 show IntKind.u32.wrap (((BitVec.ofInt 32 (x.toNat:Int)) ^^^ (BitVec.ofInt 32 (y.toNat:Int))).toNat:Nat)=_;rw [ofInt32,ofInt32,c0k]
theorem d5m(x y:BitVec 32):bits .and .u32 (x.toNat:Int) (y.toNat:Int)=((x &&& y).toNat:Nat):=by
 show IntKind.u32.wrap (((BitVec.ofInt 32 (x.toNat:Int)) &&& (BitVec.ofInt 32 (y.toNat:Int))).toNat:Nat)=_;rw [ofInt32,ofInt32,c0k]
theorem bor(x y:BitVec 32):bits .or .u32 (x.toNat:Int) (y.toNat:Int)=((x ||| y).toNat:Nat):=by
 show IntKind.u32.wrap (((BitVec.ofInt 32 (x.toNat:Int)) ||| (BitVec.ofInt 32 (y.toNat:Int))).toNat:Nat)=_;rw [ofInt32,ofInt32,c0k]
theorem c4o(x y:BitVec 32):IntKind.u32.wrap ((x.toNat:Int) + (y.toNat:Int))=((x + y).toNat:Nat):=by
 rw [IntKind.wrap_u32,BitVec.toNat_add];omega
theorem bnot(x:BitVec 32):bits .xor .u32 4294967295 (x.toNat:Int)=((~~~x).toNat:Nat):=by
 have e:BitVec.ofInt 32 4294967295=BitVec.allOnes 32:=by decide
 show IntKind.u32.wrap (((BitVec.ofInt 32 4294967295) ^^^ (BitVec.ofInt 32 (x.toNat:Int))).toNat:Nat)=_;rw [ofInt32,e,BitVec.allOnes_xor,c0k]
theorem e4s(x:BitVec 32)(s:Nat):(x.toNat:Int) * 2 ^ s % 4294967296=((x <<< s).toNat:Nat):=by
 rw [BitVec.toNat_shiftLeft,Nat.shiftLeft_eq];have h:((2:Int) ^ s)=((2 ^ s:Nat):Int):=by norm_cast
 rw [h];generalize 2 ^ s=q;show(x.toNat:Int) * (q:Int) % ((4294967296:Nat):Int)=((x.toNat * q % 4294967296:Nat):Int);rw [Int.natCast_emod,Int.natCast_mul]
theorem e5k(x:BitVec 32)(s:Nat):(x.toNat:Int) / 2 ^ s=((x >>> s).toNat:Nat):=by
 rw [BitVec.toNat_ushiftRight,Nat.shiftRight_eq_div_pow];have h:((2:Int) ^ s)=((2 ^ s:Nat):Int):=by norm_cast
 rw [h]
 norm_cast
theorem a3g(x:BitVec 32)(k:Int)(s:Nat)(hs:bits .and .u64 (IntKind.u64.wrap k) 31=s)(h31:s≤31)(w:World) :
 Calls Tryz.prog 132 #[W32 x,.int .i64 k] w fun e w'=>e= .returned (W32 (x <<< s ||| x >>> (32 - s)))∧Kept [] w w':=by
 have K:=hjd (Kept.refl [] w);have h1:(32:Int) - s=((32 - s:Nat):Int):=by omega
 have h2:IntKind.u64.wrap ((32 - s:Nat):Int)=((32 - s:Nat):Int):=by rw [IntKind.wrap_u64];omega
 have h3:∀t:Nat,((t:Int)).toNat=t:=fun t=>rfl
 go_enter Tryz.func132,Tryz.ntmps132;go_wp2_with fail;go_ret;refine⟨?_,K.out⟩;show Ending.returned (.int .u32 (bits .or .u32 ((x.toNat:Int) * 2 ^ s % 4294967296) ((x.toNat:Int) / 2 ^ (32 - s))))=_;rw [e4s,e5k,bor]
end Go.Proofs.YtdbngnlpafcogaaGreat
namespace Go.Proofs.YtdbngnlpafcogaaGreat
open Go.RowKit Go.Mem Go.Txt
abbrev B32:=BitVec 32
def rl(x:B32)(s:Nat):B32:=x <<< s ||| x >>> (32 - s)
def ls0(x:B32):B32:=(rl x 25 ^^^ rl x 14) ^^^ x >>> 3
def ls1(y:B32):B32:=(rl y 15 ^^^ rl y 13) ^^^ y >>> 10
def us0(a:B32):B32:=(rl a 30 ^^^ rl a 19) ^^^ rl a 10
def us1(e:B32):B32:=(rl e 26 ^^^ rl e 21) ^^^ rl e 7
def chB(e f g:B32):B32:=(e &&& f) ^^^ (~~~e &&& g)
def mjB(a b c:B32):B32:=((a &&& b) ^^^ (a &&& c)) ^^^ (b &&& c)
def wrdS(p:Nat→UInt8)(t:Nat):B32:=((BitVec.ofNat 32 (p (4 * t)).toNat <<< 24 ||| BitVec.ofNat 32 (p (4 * t + 1)).toNat <<< 16) ||| BitVec.ofNat 32 (p (4 * t + 2)).toNat <<< 8) ||| BitVec.ofNat 32 (p (4 * t + 3)).toNat
def sch(p:Nat→UInt8)(t:Nat):B32:=
 if _h:t < 16 then wrdS p t else ls1 (sch p (t - 2)) + sch p (t - 7) + ls0 (sch p (t - 15)) + sch p (t - 16)
termination_by t
decreasing_by all_goals omega
theorem c1q(p:Nat→UInt8){t:Nat}(h:t < 16):sch p t=wrdS p t:=by rw [sch,dif_pos h]
theorem c2q(p:Nat→UInt8){t:Nat}(h:¬t < 16):sch p t=ls1 (sch p (t - 2)) + sch p (t - 7) + ls0 (sch p (t - 15)) + sch p (t - 16):=by rw [sch,dif_neg h]
def c5g(n:Nat):B32:=BitVec.ofNat 32 (n / 4294967296)
def rnd(k m:B32)(v:Nat→B32):Nat→B32
 | 0=>v 7 + us1 (v 4) + chB (v 4) (v 5) (v 6) + k + m + (us0 (v 0) + mjB (v 0) (v 1) (v 2))
 | 4=>v 3 + (v 7 + us1 (v 4) + chB (v 4) (v 5) (v 6) + k + m)
 | i + 1=>v i
def a3z(p:Nat→UInt8)(h:Nat→B32):Nat→Nat→B32
 | 0=>h
 | t + 1=>rnd (c5g (a2f.getD t 0)) (sch p t) (a3z p h t)
def blk(p:Nat→UInt8)(h:Nat→B32):Nat→B32:=fun i=>h i + a3z p h 64 i
def b0r(b:List UInt8):Nat→Nat→B32
 | 0=>fun i=>c5g (a6u.getD i 0)
 | n + 1=>blk (fun j=>b.getD (64 * n + j) 0) (b0r b n)
def c3k(h:Nat→B32):List UInt8:=(List.range 32).map fun j=>UInt8.ofNat ((h (j / 4)).toNat / 2 ^ (24 - 8 * (j % 4)))
def sha(m:List UInt8):List UInt8:=c3k (b0r (pad m) ((pad m).length / 64))
theorem b3g(m:List UInt8):(sha m).length=32:=by simp [sha,c3k]
end Go.Proofs.YtdbngnlpafcogaaGreat
