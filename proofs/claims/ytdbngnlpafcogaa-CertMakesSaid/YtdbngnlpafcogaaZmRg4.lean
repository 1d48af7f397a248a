/-
  The ring: Open.
-/
import Derived.Test.YtdbngnlpafcogaaZmJ02
set_option maxRecDepth 100000
namespace Go.Proofs.Ytdbngnlpafcogaa
open Go.RowKit Go.Mem Go.Txt
theorem a7r:SliceT Try.prog 38 26 32 32 (ab (a0q 32)):=⟨Try.underlying38,by kernel_rfl,rfl,by omega⟩
theorem c8k(w:World):(zeroValue 3).run Try.prog w= .ok (.int .i64 0) w:=by kernel_rfl
theorem b7i{w:World}{g:Nat}{t:TypeId}{v1 v2 v3:Value}{x1 x2 x3:List UInt8}(hb:Blk w g t #[v1,v2,v3])(h1:a2b x1 v1 w)(h2:a2b x2 v2 w)(h3:a2b x3 v3 w):Parts w (.slice (some ⟨g,0,none⟩) 3 3) [(v1,x1),(v2,x2),(v3,x3)]:=by
 refine⟨⟨_,_,rfl,rfl,Nat.le_refl _,fun _=>⟨g,0,rfl,fun j u hu=>by rw [hb.cell,Nat.zero_add];simpa using hu⟩⟩,fun p hp=>?_⟩
 simp only [List.mem_cons,List.not_mem_nil,or_false]at hp
 rcases hp with rfl | rfl | rfl
 ·exact h1
 ·exact h2
 ·exact h3
theorem a6b{keys:List (List UInt8)}{i:Nat}(h:i < keys.length)(hk:∀k∈keys,k.length=32):∃pre post,keys.flatMap bv=pre ++ (bv (keys.getD i []) ++ post)∧pre.length=i * 32:=by
 have e:keys=keys.take i ++ (keys[i] :: keys.drop (i + 1)):=by rw [List.getElem_cons_drop];exact(List.take_append_drop i keys).symm
 have hg:keys.getD i []=keys[i]:=by simp [List.getD_eq_getElem?_getD,h]
 refine⟨(keys.take i).flatMap bv,(keys.drop (i + 1)).flatMap bv,?_,?_⟩
 ·conv=>lhs;rw [e]
  rw [List.flatMap_append,List.flatMap_cons,hg]
 ·rw [c7j (fun k hm=>hk k (List.mem_of_mem_take hm)),List.length_take,Nat.min_eq_left (by omega)]
theorem oM.lt{w:World}{b n:Nat}{D:DU}(m:oM w b n D):b < w.heap.size:=World.ownsMap.lt m
theorem c0m{D:DU}{k:Lit}{d:DU}(h:Maps.IsMap D):Maps.IsMap (D.put k d):=by
 obtain⟨es,rfl⟩:=h
 exact⟨_,rfl⟩
def a4o(i:Nat)(tag:UInt8)(SG body:List UInt8):List UInt8:=UInt8.ofNat i :: tag :: (SG ++ body)
set_option maxHeartbeats 3200000 in
theorem d1i{w:World}{r b:Nat}{kv:Value}{keys:List (List UInt8)}{D:DU}{i:Nat}{tag:UInt8}{SG body:List UInt8}(h:Rg w r kv keys b D)(hi:i < keys.length)(hg:SG.length=64)(mv:Value)(hm:a2b body mv w)(hml:body.length≤140737488351900)(hat:atM D (a4o i tag SG body)= .lit (.int .i64 1)) :
 Calls Try.prog 15 #[.pointer (some ⟨r,0,none⟩),.int .i64 (i:Int),.int .u8 (tag.toNat:Int),mv,ab SG] w fun e w'=>e= .returned (.bool true)∧Kept [] w w':=by
 obtain⟨KA,kc,e0,_⟩:=h.rows
 subst e0
 obtain⟨BA,bc,e1,_⟩:=id hm
 subst e1
 have hlt7:=h.few
 obtain⟨n,mp⟩:=h.map
 have H:=hjd h
 have hx0:¬((i:Int) < 0):=by omega
 have hx1:¬((keys.length:Int)≤(i:Int)):=by omega
 have hi8:IntKind.u8.wrap (i:Int)=((UInt8.ofNat i).toNat:Int):=by
  rw [UInt8.toNat_ofNat_of_lt' (by show i < 256;omega),IntKind.wrap_u8]
  omega
 have hKl:=hjd (show(a4o i tag SG body).length=66 + body.length by unfold a4o;simp [hg];omega)
 have hkey:=Go.WideMaps.keyOf_string_mk Try.underlying9 (s:=mkS (a4o i tag SG body)) (by show(a4o i tag SG body).length≤maxLen;rw [hKl.out];simp only [maxLen];omega)
 have hkd:(mkS (a4o i tag SG body)).data.toList=a4o i tag SG body:=by simp [mkS]
 rw [hkd]at hkey
 replace hkey:=hjd hkey
 have hjo:=hjd (show∀v1 v2 v3:Value,a1c [(v1,[UInt8.ofNat i,tag]),(v2,SG),(v3,body)]=a4o i tag SG body from fun _ _ _=>by simp [a1c,bytesOf,a4o])
 generalize hK:a4o i tag SG body=K at *
 replace hK:=hjd hK
 replace hat:=hjd hat
 have hm:=hjd hm
 have hg:=hjd hg
 have hi:=hjd hi
 have hml:=hjd hml
 have KK:=hjd (Kept.refl [] w)
 clear h hkd
 go_enter Try.func15,Try.ntmps15
 go_wp2_with (first
  | ((with_reducible refine a0e 9 ?_);(refine a0p (o:=⟨some 9,_,_,_,_,_⟩) (v:=ab SG) rfl (.tmp 4) rfl rfl ?_);intro g9 w9 m9;have B9:=hjd (show Blk w9 g9 24 (bv SG).toArray from m9.blk);replace KK:=hjd (KK.out.a0f m9.kept);replace H:=hjd (H.out.kept m9.kept);clear m9)
  | (go_at_call 19;(with_reducible refine(a5l H.out).mono ?_);rintro e v ⟨rfl,rfl⟩)
  | ((with_reducible refine a0e 25 ?_);(refine a4t (o:=⟨some 25,_,_,_,_,_⟩) (v0:=.int .u8 ((UInt8.ofNat i).toNat:Int)) (v1:=.int .u8 (tag.toNat:Int)) rfl a2p rfl rfl rfl rfl rfl ?_);intro g25 w25 m25
     have R25:=hjd (show a2b [UInt8.ofNat i,tag] (.slice (some ⟨g25,0,none⟩) 2 2) w25 from Blk.rd (cs:=bv [UInt8.ofNat i,tag]) m25.blk rfl (Nat.le_refl _))
     replace KK:=hjd (KK.out.a0f m25.kept)
     replace H:=hjd (H.out.kept m25.kept)
     replace B9:=hjd (B9.out.kept m25.kept (by simp))
     clear m25)
  | ((with_reducible refine a0e 28 ?_);(refine a5h (o:=⟨some 28,_,_,_,_,_⟩) (v0:=.slice (some ⟨g25,0,none⟩) 2 2) (v1:=.slice (some ⟨g9,0,none⟩) 64 64) (v2:=.slice BA body.length bc) rfl a5i rfl rfl rfl rfl rfl rfl rfl ?_);intro gp wp mp
     have PP:=hjd (b7i mp.blk (R25.out.a0o mp.kept) (show a2b SG _ wp from by unfold a2b;rw [hg.out];exact Blk.rd (B9.out.kept mp.kept (by simp)) (by simp [hg.out]) (Nat.le_refl _)) ((hm.out.a0o KK.out).a0o mp.kept))
     replace KK:=hjd (KK.out.a0f mp.kept)
     replace H:=hjd (H.out.kept mp.kept)
     replace B9:=hjd (B9.out.kept mp.kept (by simp))
     clear mp R25)
  | (go_at_call 50;(with_reducible refine(a7n _ _ _ PP.out (by simp) (by rw [hjo.out,hKl.out];have:=hml.out;omega)).mono ?_);rintro e v29 ⟨x29,rfl,hn⟩
     rw [hjo.out]at hn
     have R29:=hjd hn.rd
     replace KK:=hjd (KK.out.a0f hn.kept)
     replace H:=hjd (H.out.kept hn.kept)
     replace B9:=hjd (B9.out.kept hn.kept (by simp))
     have q1:v29.cell? ⟨r,1,none⟩=some (.map (some b)):=by rw [H.out.blk.cell];rfl
     have q0:v29.cell? ⟨r,0,none⟩=some (.slice KA keys.length kc):=by rw [H.out.blk.cell];rfl
     clear hn PP)
  | ((with_reducible refine a0e 30 ?_);refine b2i (o:=⟨some 30,_,_,_,_,_⟩) Try.underlying23 Try.underlying5 Try.underlying9 rfl (.tmp 29) rfl rfl R29.out ?_)
  | (at_lookup;refine wpList_lookup_own_int _ rfl _ _ _ rfl 9 3 .i64 sk Try.underlying91 Try.underlying3 (c8k _) b n D rfl (mp.kept KK.out (by simp)) (.string (mkS K)) (.string K) rfl hkey.out ?_
     intro c' hc' _
     obtain rfl:c'=1:=by
      have:=hat.out
      unfold atM at this
      rw [hc']at this
      injection this with this
      injection this
     clear hc'))
 go_ret
 exact⟨rfl,KK.out⟩
set_option maxHeartbeats 3200000 in
theorem d2f{w:World}{r b:Nat}{kv:Value}{keys:List (List UInt8)}{D:DU}{i:Nat}{tag:UInt8}{SG body:List UInt8}(h:Rg w r kv keys b D)(hi:i < keys.length)(hg:SG.length=64)(mv:Value)(hm:a2b body mv w)(hml:body.length≤140737488351900)(hat:atM D (a4o i tag SG body)= .lit (.int .i64 2)) :
 Calls Try.prog 15 #[.pointer (some ⟨r,0,none⟩),.int .i64 (i:Int),.int .u8 (tag.toNat:Int),mv,ab SG] w fun e w'=>e= .returned (.bool false)∧Kept [] w w':=by
 obtain⟨KA,kc,e0,_⟩:=h.rows
 subst e0
 obtain⟨BA,bc,e1,_⟩:=id hm
 subst e1
 have hlt7:=h.few
 obtain⟨n,mp⟩:=h.map
 have H:=hjd h
 have hx0:¬((i:Int) < 0):=by omega
 have hx1:¬((keys.length:Int)≤(i:Int)):=by omega
 have hi8:IntKind.u8.wrap (i:Int)=((UInt8.ofNat i).toNat:Int):=by
  rw [UInt8.toNat_ofNat_of_lt' (by show i < 256;omega),IntKind.wrap_u8]
  omega
 have hKl:=hjd (show(a4o i tag SG body).length=66 + body.length by unfold a4o;simp [hg];omega)
 have hkey:=Go.WideMaps.keyOf_string_mk Try.underlying9 (s:=mkS (a4o i tag SG body)) (by show(a4o i tag SG body).length≤maxLen;rw [hKl.out];simp only [maxLen];omega)
 have hkd:(mkS (a4o i tag SG body)).data.toList=a4o i tag SG body:=by simp [mkS]
 rw [hkd]at hkey
 replace hkey:=hjd hkey
 have hjo:=hjd (show∀v1 v2 v3:Value,a1c [(v1,[UInt8.ofNat i,tag]),(v2,SG),(v3,body)]=a4o i tag SG body from fun _ _ _=>by simp [a1c,bytesOf,a4o])
 generalize hK:a4o i tag SG body=K at *
 replace hK:=hjd hK
 replace hat:=hjd hat
 have hm:=hjd hm
 have hg:=hjd hg
 have hi:=hjd hi
 have hml:=hjd hml
 have KK:=hjd (Kept.refl [] w)
 clear h hkd
 go_enter Try.func15,Try.ntmps15
 go_wp2_with (first
  | ((with_reducible refine a0e 9 ?_);(refine a0p (o:=⟨some 9,_,_,_,_,_⟩) (v:=ab SG) rfl (.tmp 4) rfl rfl ?_);intro g9 w9 m9;have B9:=hjd (show Blk w9 g9 24 (bv SG).toArray from m9.blk);replace KK:=hjd (KK.out.a0f m9.kept);replace H:=hjd (H.out.kept m9.kept);clear m9)
  | (go_at_call 19;(with_reducible refine(a5l H.out).mono ?_);rintro e v ⟨rfl,rfl⟩)
  | ((with_reducible refine a0e 25 ?_);(refine a4t (o:=⟨some 25,_,_,_,_,_⟩) (v0:=.int .u8 ((UInt8.ofNat i).toNat:Int)) (v1:=.int .u8 (tag.toNat:Int)) rfl a2p rfl rfl rfl rfl rfl ?_);intro g25 w25 m25
     have R25:=hjd (show a2b [UInt8.ofNat i,tag] (.slice (some ⟨g25,0,none⟩) 2 2) w25 from Blk.rd (cs:=bv [UInt8.ofNat i,tag]) m25.blk rfl (Nat.le_refl _))
     replace KK:=hjd (KK.out.a0f m25.kept)
     replace H:=hjd (H.out.kept m25.kept)
     replace B9:=hjd (B9.out.kept m25.kept (by simp))
     clear m25)
  | ((with_reducible refine a0e 28 ?_);(refine a5h (o:=⟨some 28,_,_,_,_,_⟩) (v0:=.slice (some ⟨g25,0,none⟩) 2 2) (v1:=.slice (some ⟨g9,0,none⟩) 64 64) (v2:=.slice BA body.length bc) rfl a5i rfl rfl rfl rfl rfl rfl rfl ?_);intro gp wp mp
     have PP:=hjd (b7i mp.blk (R25.out.a0o mp.kept) (show a2b SG _ wp from by unfold a2b;rw [hg.out];exact Blk.rd (B9.out.kept mp.kept (by simp)) (by simp [hg.out]) (Nat.le_refl _)) ((hm.out.a0o KK.out).a0o mp.kept))
     replace KK:=hjd (KK.out.a0f mp.kept)
     replace H:=hjd (H.out.kept mp.kept)
     replace B9:=hjd (B9.out.kept mp.kept (by simp))
     clear mp R25)
  | (go_at_call 50;(with_reducible refine(a7n _ _ _ PP.out (by simp) (by rw [hjo.out,hKl.out];have:=hml.out;omega)).mono ?_);rintro e v29 ⟨x29,rfl,hn⟩
     rw [hjo.out]at hn
     have R29:=hjd hn.rd
     replace KK:=hjd (KK.out.a0f hn.kept)
     replace H:=hjd (H.out.kept hn.kept)
     replace B9:=hjd (B9.out.kept hn.kept (by simp))
     have q1:v29.cell? ⟨r,1,none⟩=some (.map (some b)):=by rw [H.out.blk.cell];rfl
     have q0:v29.cell? ⟨r,0,none⟩=some (.slice KA keys.length kc):=by rw [H.out.blk.cell];rfl
     clear hn PP)
  | ((with_reducible refine a0e 30 ?_);refine b2i (o:=⟨some 30,_,_,_,_,_⟩) Try.underlying23 Try.underlying5 Try.underlying9 rfl (.tmp 29) rfl rfl R29.out ?_)
  | (at_lookup;refine wpList_lookup_own_int _ rfl _ _ _ rfl 9 3 .i64 sk Try.underlying91 Try.underlying3 (c8k _) b n D rfl (mp.kept KK.out (by simp)) (.string (mkS K)) (.string K) rfl hkey.out ?_
     intro c' hc' _
     obtain rfl:c'=2:=by
      have:=hat.out
      unfold atM at this
      rw [hc']at this
      injection this with this
      injection this
     clear hc'))
 go_ret
 exact⟨rfl,KK.out⟩
set_option maxHeartbeats 3200000 in
theorem b5w{w:World}{r b:Nat}{kv:Value}{keys:List (List UInt8)}{D:DU}{i:Nat}{tag:UInt8}{SG body:List UInt8}(h:Rg w r kv keys b D)(hi:i < keys.length)(hg:SG.length=64)(mv:Value)(hm:a2b body mv w)(hml:body.length≤140737488351900)(hat:atM D (a4o i tag SG body)= .lit (.int .i64 0))(hok:okV (keys.getD i []) SG (a4w tag body)=true)(hroom:Maps.size D < 16384)
 (co:∀u,a2b body mv u→Calls Try.prog 16 #[ab (keys.getD i []),.int .u8 (tag.toNat:Int),mv,ab SG] u fun e w'=>e= .returned (.bool true)∧Kept [] u w') :
 Calls Try.prog 15 #[.pointer (some ⟨r,0,none⟩),.int .i64 (i:Int),.int .u8 (tag.toNat:Int),mv,ab SG] w fun e w'=>e= .returned (.bool true)∧∃D',Rg w' r kv keys b D'∧Kept [b] w w':=by
 obtain⟨KA,kc,e0,_⟩:=h.rows
 subst e0
 obtain⟨BA,bc,e1,_⟩:=id hm
 subst e1
 have hlt7:=h.few
 obtain⟨n,mp⟩:=h.map
 have H:=hjd h
 have hx0:¬((i:Int) < 0):=by omega
 have hx1:¬((keys.length:Int)≤(i:Int)):=by omega
 have hi8:IntKind.u8.wrap (i:Int)=((UInt8.ofNat i).toNat:Int):=by
  rw [UInt8.toNat_ofNat_of_lt' (by show i < 256;omega),IntKind.wrap_u8]
  omega
 have hKl:=hjd (show(a4o i tag SG body).length=66 + body.length by unfold a4o;simp [hg];omega)
 have hkey:=Go.WideMaps.keyOf_string_mk Try.underlying9 (s:=mkS (a4o i tag SG body)) (by show(a4o i tag SG body).length≤maxLen;rw [hKl.out];simp only [maxLen];omega)
 have hkd:(mkS (a4o i tag SG body)).data.toList=a4o i tag SG body:=by simp [mkS]
 rw [hkd]at hkey
 replace hkey:=hjd hkey
 have hjo:=hjd (show∀v1 v2 v3:Value,a1c [(v1,[UInt8.ofNat i,tag]),(v2,SG),(v3,body)]=a4o i tag SG body from fun _ _ _=>by simp [a1c,bytesOf,a4o])
 generalize hK:a4o i tag SG body=K at *
 replace hK:=hjd hK
 replace hat:=hjd hat
 have hm:=hjd hm
 have hg:=hjd hg
 have hi:=hjd hi
 have hml:=hjd hml
 have KK:=hjd (Kept.refl [] w)
 clear h hkd
 replace co:=hjd co
 replace hok:=hjd hok
 go_enter Try.func15,Try.ntmps15
 go_wp2_with (first
  | ((with_reducible refine a0e 9 ?_);(refine a0p (o:=⟨some 9,_,_,_,_,_⟩) (v:=ab SG) rfl (.tmp 4) rfl rfl ?_);intro g9 w9 m9;have B9:=hjd (show Blk w9 g9 24 (bv SG).toArray from m9.blk);replace KK:=hjd (KK.out.a0f m9.kept);replace H:=hjd (H.out.kept m9.kept);clear m9)
  | (go_at_call 19;(with_reducible refine(a5l H.out).mono ?_);rintro e v ⟨rfl,rfl⟩)
  | ((with_reducible refine a0e 25 ?_);(refine a4t (o:=⟨some 25,_,_,_,_,_⟩) (v0:=.int .u8 ((UInt8.ofNat i).toNat:Int)) (v1:=.int .u8 (tag.toNat:Int)) rfl a2p rfl rfl rfl rfl rfl ?_);intro g25 w25 m25
     have R25:=hjd (show a2b [UInt8.ofNat i,tag] (.slice (some ⟨g25,0,none⟩) 2 2) w25 from Blk.rd (cs:=bv [UInt8.ofNat i,tag]) m25.blk rfl (Nat.le_refl _))
     replace KK:=hjd (KK.out.a0f m25.kept)
     replace H:=hjd (H.out.kept m25.kept)
     replace B9:=hjd (B9.out.kept m25.kept (by simp))
     clear m25)
  | ((with_reducible refine a0e 28 ?_);(refine a5h (o:=⟨some 28,_,_,_,_,_⟩) (v0:=.slice (some ⟨g25,0,none⟩) 2 2) (v1:=.slice (some ⟨g9,0,none⟩) 64 64) (v2:=.slice BA body.length bc) rfl a5i rfl rfl rfl rfl rfl rfl rfl ?_);intro gp wp mp
     have PP:=hjd (b7i mp.blk (R25.out.a0o mp.kept) (show a2b SG _ wp from by unfold a2b;rw [hg.out];exact Blk.rd (B9.out.kept mp.kept (by simp)) (by simp [hg.out]) (Nat.le_refl _)) ((hm.out.a0o KK.out).a0o mp.kept))
     replace KK:=hjd (KK.out.a0f mp.kept)
     replace H:=hjd (H.out.kept mp.kept)
     replace B9:=hjd (B9.out.kept mp.kept (by simp))
     clear mp R25)
  | (go_at_call 50;(with_reducible refine(a7n _ _ _ PP.out (by simp) (by rw [hjo.out,hKl.out];have:=hml.out;omega)).mono ?_);rintro e v29 ⟨x29,rfl,hn⟩
     rw [hjo.out]at hn
     have R29:=hjd hn.rd
     replace KK:=hjd (KK.out.a0f hn.kept)
     replace H:=hjd (H.out.kept hn.kept)
     replace B9:=hjd (B9.out.kept hn.kept (by simp))
     have q1:v29.cell? ⟨r,1,none⟩=some (.map (some b)):=by rw [H.out.blk.cell];rfl
     have q0:v29.cell? ⟨r,0,none⟩=some (.slice KA keys.length kc):=by rw [H.out.blk.cell];rfl
     clear hn PP)
  | ((with_reducible refine a0e 30 ?_);refine b2i (o:=⟨some 30,_,_,_,_,_⟩) Try.underlying23 Try.underlying5 Try.underlying9 rfl (.tmp 29) rfl rfl R29.out ?_)
  | (at_lookup;refine wpList_lookup_own_int _ rfl _ _ _ rfl 9 3 .i64 sk Try.underlying91 Try.underlying3 (c8k _) b n D rfl (mp.kept KK.out (by simp)) (.string (mkS K)) (.string K) rfl hkey.out ?_
     intro c' hc' _
     obtain rfl:c'=0:=by
      have:=hat.out
      unfold atM at this
      rw [hc']at this
      injection this with this
      injection this
     clear hc'))
 obtain⟨pre,post,hpp,hpl⟩:=a6b hi.out H.out.len
 have hKey:=hjd (H.out.len (keys.getD i []) (by rw [show keys.getD i []=keys[i]'(hi.out)from by simp [List.getD_eq_getElem?_getD,hi.out]];exact List.getElem_mem _))
 obtain⟨kb,ko,c2,he2,_,_⟩:=H.out.rows.at_ (by have:=hi.out;omega)
 cases he2
 have hrng:=hjd (Rd.elem (i:=i) H.out.rows hpp hpl (by have:=hi.out;omega))
 generalize hky:keys.getD i []=key at *
 replace hky:=hjd hky
 have hmv:=hjd (show a2b body (.slice BA body.length bc) v29.drew from hm.out.a0o KK.out.drew)
 refine Txt.a2z (by kernel_rfl) (by kernel_rfl) ?_
 go_wp2_with (first
  | ((with_reducible refine a0e 46 ?_);refine a3x (o:=⟨some 46,_,_,_,_,_⟩) a7r rfl (.tmp 44) (.tmp 45) rfl rfl rfl hi.out ?_)
  | ((with_reducible refine a0e 47 ?_);refine a0z (o:=⟨some 47,_,_,_,_,_⟩) (cs:=bv key) a2k.row rfl (.tmp 46) rfl rfl hrng.out (by simpa using hKey.out) ?_)
  | ((with_reducible refine a0e 50 ?_);refine a0d (cs:=(bv SG).toArray) (o:=⟨some 50,_,_,_,_,_⟩) Q.a8z rfl (.tmp 9) rfl rfl B9.out.drew (by simpa using hg.out) ?_)
  | (go_at_call 16;(with_reducible refine(co.out _ hmv.out).mono ?_);rintro e v51 ⟨rfl,k51⟩
     have K51:=hjd (KK.out.a0f k51.a1r)
     have H51:=hjd (H.out.kept k51.a1r)
     have q1:v51.cell? ⟨r,1,none⟩=some (.map (some b)):=by rw [H51.out.blk.cell];rfl
     clear k51))
 refine⟨rfl,by kernel_rfl,?_⟩
 go_wp2_with (first
  | (at_len;refine wpList_len_own _ rfl _ 91 rfl 9 3 Try.underlying91 _ b n D rfl (mp.kept K51.out (by simp)) ?_)
  | (at_mapUpdate;refine wpList_mapUpdate_own _ rfl _ _ _ 91 rfl 9 3 sk Try.underlying91 _ b (Maps.size D) D rfl (oM.tight (mp.kept K51.out (by simp))) (by simp only [maxLen];omega) (.string (mkS K)) (.int .i64 1) (.string K) rfl rfl hkey.out (.lit (.int .i64 1)) [] (plainElem_int Try.underlying3 (by decide)) ?_
     intro w9 own9 grow9))
 go_ret
 have kb:=Kept.grown grow9
 have hs:=c2s.put H51.out.seen H51.out.isMap H51.out.few hi.out hg.out (tag:=tag) (body:=body) (c:=1) (by decide) (by rw [hky.out];simp [hok.out])
 have hK2:=hK.out
 unfold a4o at hK2
 rw [hK2]at hs
 exact⟨rfl,_,H51.out.e0p kb own9 hs (c0m H51.out.isMap),(Kept.of0 K51.out).trans' kb⟩
set_option maxHeartbeats 3200000 in
theorem b0n{w:World}{r b:Nat}{kv:Value}{keys:List (List UInt8)}{D:DU}{i:Nat}{tag:UInt8}{SG body:List UInt8}(h:Rg w r kv keys b D)(hi:i < keys.length)(hg:SG.length=64)(mv:Value)(hm:a2b body mv w)(hml:body.length≤140737488351900)(hat:atM D (a4o i tag SG body)= .lit (.int .i64 0))(hok:okV (keys.getD i []) SG (a4w tag body)=true)(hroom:¬Maps.size D < 16384)
 (co:∀u,a2b body mv u→Calls Try.prog 16 #[ab (keys.getD i []),.int .u8 (tag.toNat:Int),mv,ab SG] u fun e w'=>e= .returned (.bool true)∧Kept [] u w') :
 Calls Try.prog 15 #[.pointer (some ⟨r,0,none⟩),.int .i64 (i:Int),.int .u8 (tag.toNat:Int),mv,ab SG] w fun e w'=>e= .returned (.bool true)∧∃D',Rg w' r kv keys b D'∧Kept [b] w w':=by
 obtain⟨KA,kc,e0,_⟩:=h.rows
 subst e0
 obtain⟨BA,bc,e1,_⟩:=id hm
 subst e1
 have hlt7:=h.few
 obtain⟨n,mp⟩:=h.map
 have H:=hjd h
 have hx0:¬((i:Int) < 0):=by omega
 have hx1:¬((keys.length:Int)≤(i:Int)):=by omega
 have hi8:IntKind.u8.wrap (i:Int)=((UInt8.ofNat i).toNat:Int):=by
  rw [UInt8.toNat_ofNat_of_lt' (by show i < 256;omega),IntKind.wrap_u8]
  omega
 have hKl:=hjd (show(a4o i tag SG body).length=66 + body.length by unfold a4o;simp [hg];omega)
 have hkey:=Go.WideMaps.keyOf_string_mk Try.underlying9 (s:=mkS (a4o i tag SG body)) (by show(a4o i tag SG body).length≤maxLen;rw [hKl.out];simp only [maxLen];omega)
 have hkd:(mkS (a4o i tag SG body)).data.toList=a4o i tag SG body:=by simp [mkS]
 rw [hkd]at hkey
 replace hkey:=hjd hkey
 have hjo:=hjd (show∀v1 v2 v3:Value,a1c [(v1,[UInt8.ofNat i,tag]),(v2,SG),(v3,body)]=a4o i tag SG body from fun _ _ _=>by simp [a1c,bytesOf,a4o])
 generalize hK:a4o i tag SG body=K at *
 replace hK:=hjd hK
 replace hat:=hjd hat
 have hm:=hjd hm
 have hg:=hjd hg
 have hi:=hjd hi
 have hml:=hjd hml
 have KK:=hjd (Kept.refl [] w)
 clear h hkd
 replace co:=hjd co
 replace hok:=hjd hok
 go_enter Try.func15,Try.ntmps15
 go_wp2_with (first
  | ((with_reducible refine a0e 9 ?_);(refine a0p (o:=⟨some 9,_,_,_,_,_⟩) (v:=ab SG) rfl (.tmp 4) rfl rfl ?_);intro g9 w9 m9;have B9:=hjd (show Blk w9 g9 24 (bv SG).toArray from m9.blk);replace KK:=hjd (KK.out.a0f m9.kept);replace H:=hjd (H.out.kept m9.kept);clear m9)
  | (go_at_call 19;(with_reducible refine(a5l H.out).mono ?_);rintro e v ⟨rfl,rfl⟩)
  | ((with_reducible refine a0e 25 ?_);(refine a4t (o:=⟨some 25,_,_,_,_,_⟩) (v0:=.int .u8 ((UInt8.ofNat i).toNat:Int)) (v1:=.int .u8 (tag.toNat:Int)) rfl a2p rfl rfl rfl rfl rfl ?_);intro g25 w25 m25
     have R25:=hjd (show a2b [UInt8.ofNat i,tag] (.slice (some ⟨g25,0,none⟩) 2 2) w25 from Blk.rd (cs:=bv [UInt8.ofNat i,tag]) m25.blk rfl (Nat.le_refl _))
     replace KK:=hjd (KK.out.a0f m25.kept)
     replace H:=hjd (H.out.kept m25.kept)
     replace B9:=hjd (B9.out.kept m25.kept (by simp))
     clear m25)
  | ((with_reducible refine a0e 28 ?_);(refine a5h (o:=⟨some 28,_,_,_,_,_⟩) (v0:=.slice (some ⟨g25,0,none⟩) 2 2) (v1:=.slice (some ⟨g9,0,none⟩) 64 64) (v2:=.slice BA body.length bc) rfl a5i rfl rfl rfl rfl rfl rfl rfl ?_);intro gp wp mp
     have PP:=hjd (b7i mp.blk (R25.out.a0o mp.kept) (show a2b SG _ wp from by unfold a2b;rw [hg.out];exact Blk.rd (B9.out.kept mp.kept (by simp)) (by simp [hg.out]) (Nat.le_refl _)) ((hm.out.a0o KK.out).a0o mp.kept))
     replace KK:=hjd (KK.out.a0f mp.kept)
     replace H:=hjd (H.out.kept mp.kept)
     replace B9:=hjd (B9.out.kept mp.kept (by simp))
     clear mp R25)
  | (go_at_call 50;(with_reducible refine(a7n _ _ _ PP.out (by simp) (by rw [hjo.out,hKl.out];have:=hml.out;omega)).mono ?_);rintro e v29 ⟨x29,rfl,hn⟩
     rw [hjo.out]at hn
     have R29:=hjd hn.rd
     replace KK:=hjd (KK.out.a0f hn.kept)
     replace H:=hjd (H.out.kept hn.kept)
     replace B9:=hjd (B9.out.kept hn.kept (by simp))
     have q1:v29.cell? ⟨r,1,none⟩=some (.map (some b)):=by rw [H.out.blk.cell];rfl
     have q0:v29.cell? ⟨r,0,none⟩=some (.slice KA keys.length kc):=by rw [H.out.blk.cell];rfl
     clear hn PP)
  | ((with_reducible refine a0e 30 ?_);refine b2i (o:=⟨some 30,_,_,_,_,_⟩) Try.underlying23 Try.underlying5 Try.underlying9 rfl (.tmp 29) rfl rfl R29.out ?_)
  | (at_lookup;refine wpList_lookup_own_int _ rfl _ _ _ rfl 9 3 .i64 sk Try.underlying91 Try.underlying3 (c8k _) b n D rfl (mp.kept KK.out (by simp)) (.string (mkS K)) (.string K) rfl hkey.out ?_
     intro c' hc' _
     obtain rfl:c'=0:=by
      have:=hat.out
      unfold atM at this
      rw [hc']at this
      injection this with this
      injection this
     clear hc'))
 obtain⟨pre,post,hpp,hpl⟩:=a6b hi.out H.out.len
 have hKey:=hjd (H.out.len (keys.getD i []) (by rw [show keys.getD i []=keys[i]'(hi.out)from by simp [List.getD_eq_getElem?_getD,hi.out]];exact List.getElem_mem _))
 obtain⟨kb,ko,c2,he2,_,_⟩:=H.out.rows.at_ (by have:=hi.out;omega)
 cases he2
 have hrng:=hjd (Rd.elem (i:=i) H.out.rows hpp hpl (by have:=hi.out;omega))
 generalize hky:keys.getD i []=key at *
 replace hky:=hjd hky
 have hmv:=hjd (show a2b body (.slice BA body.length bc) v29.drew from hm.out.a0o KK.out.drew)
 refine Txt.a2z (by kernel_rfl) (by kernel_rfl) ?_
 go_wp2_with (first
  | ((with_reducible refine a0e 46 ?_);refine a3x (o:=⟨some 46,_,_,_,_,_⟩) a7r rfl (.tmp 44) (.tmp 45) rfl rfl rfl hi.out ?_)
  | ((with_reducible refine a0e 47 ?_);refine a0z (o:=⟨some 47,_,_,_,_,_⟩) (cs:=bv key) a2k.row rfl (.tmp 46) rfl rfl hrng.out (by simpa using hKey.out) ?_)
  | ((with_reducible refine a0e 50 ?_);refine a0d (cs:=(bv SG).toArray) (o:=⟨some 50,_,_,_,_,_⟩) Q.a8z rfl (.tmp 9) rfl rfl B9.out.drew (by simpa using hg.out) ?_)
  | (go_at_call 16;(with_reducible refine(co.out _ hmv.out).mono ?_);rintro e v51 ⟨rfl,k51⟩
     have K51:=hjd (KK.out.a0f k51.a1r)
     have H51:=hjd (H.out.kept k51.a1r)
     have q1:v51.cell? ⟨r,1,none⟩=some (.map (some b)):=by rw [H51.out.blk.cell];rfl
     clear k51))
 refine⟨rfl,by kernel_rfl,?_⟩
 go_wp2_with (first
  | (at_len;refine wpList_len_own _ rfl _ 91 rfl 9 3 Try.underlying91 _ b n D rfl (mp.kept K51.out (by simp)) ?_)
  | (at_mapUpdate;refine wpList_mapUpdate_own _ rfl _ _ _ 91 rfl 9 3 sk Try.underlying91 _ b (Maps.size D) D rfl (oM.tight (mp.kept K51.out (by simp))) (by simp only [maxLen];omega) (.string (mkS K)) (.int .i64 1) (.string K) rfl rfl hkey.out (.lit (.int .i64 1)) [] (plainElem_int Try.underlying3 (by decide)) ?_
     intro w9 own9 grow9))
 go_ret
 exact⟨rfl,D,H51.out,Kept.of0 K51.out⟩
set_option maxHeartbeats 3200000 in
theorem b4p{w:World}{r b:Nat}{kv:Value}{keys:List (List UInt8)}{D:DU}{i:Nat}{tag:UInt8}{SG body:List UInt8}(h:Rg w r kv keys b D)(hi:i < keys.length)(hg:SG.length=64)(mv:Value)(hm:a2b body mv w)(hml:body.length≤140737488351900)(hat:atM D (a4o i tag SG body)= .lit (.int .i64 0))(hok:okV (keys.getD i []) SG (a4w tag body)=false)(hroom:Maps.size D < 16384)
 (co:∀u,a2b body mv u→Calls Try.prog 16 #[ab (keys.getD i []),.int .u8 (tag.toNat:Int),mv,ab SG] u fun e w'=>e= .returned (.bool false)∧Kept [] u w') :
 Calls Try.prog 15 #[.pointer (some ⟨r,0,none⟩),.int .i64 (i:Int),.int .u8 (tag.toNat:Int),mv,ab SG] w fun e w'=>e= .returned (.bool false)∧∃D',Rg w' r kv keys b D'∧Kept [b] w w':=by
 obtain⟨KA,kc,e0,_⟩:=h.rows
 subst e0
 obtain⟨BA,bc,e1,_⟩:=id hm
 subst e1
 have hlt7:=h.few
 obtain⟨n,mp⟩:=h.map
 have H:=hjd h
 have hx0:¬((i:Int) < 0):=by omega
 have hx1:¬((keys.length:Int)≤(i:Int)):=by omega
 have hi8:IntKind.u8.wrap (i:Int)=((UInt8.ofNat i).toNat:Int):=by
  rw [UInt8.toNat_ofNat_of_lt' (by show i < 256;omega),IntKind.wrap_u8]
  omega
 have hKl:=hjd (show(a4o i tag SG body).length=66 + body.length by unfold a4o;simp [hg];omega)
 have hkey:=Go.WideMaps.keyOf_string_mk Try.underlying9 (s:=mkS (a4o i tag SG body)) (by show(a4o i tag SG body).length≤maxLen;rw [hKl.out];simp only [maxLen];omega)
 have hkd:(mkS (a4o i tag SG body)).data.toList=a4o i tag SG body:=by simp [mkS]
 rw [hkd]at hkey
 replace hkey:=hjd hkey
 have hjo:=hjd (show∀v1 v2 v3:Value,a1c [(v1,[UInt8.ofNat i,tag]),(v2,SG),(v3,body)]=a4o i tag SG body from fun _ _ _=>by simp [a1c,bytesOf,a4o])
 generalize hK:a4o i tag SG body=K at *
 replace hK:=hjd hK
 replace hat:=hjd hat
 have hm:=hjd hm
 have hg:=hjd hg
 have hi:=hjd hi
 have hml:=hjd hml
 have KK:=hjd (Kept.refl [] w)
 clear h hkd
 replace co:=hjd co
 replace hok:=hjd hok
 go_enter Try.func15,Try.ntmps15
 go_wp2_with (first
  | ((with_reducible refine a0e 9 ?_);(refine a0p (o:=⟨some 9,_,_,_,_,_⟩) (v:=ab SG) rfl (.tmp 4) rfl rfl ?_);intro g9 w9 m9;have B9:=hjd (show Blk w9 g9 24 (bv SG).toArray from m9.blk);replace KK:=hjd (KK.out.a0f m9.kept);replace H:=hjd (H.out.kept m9.kept);clear m9)
  | (go_at_call 19;(with_reducible refine(a5l H.out).mono ?_);rintro e v ⟨rfl,rfl⟩)
  | ((with_reducible refine a0e 25 ?_);(refine a4t (o:=⟨some 25,_,_,_,_,_⟩) (v0:=.int .u8 ((UInt8.ofNat i).toNat:Int)) (v1:=.int .u8 (tag.toNat:Int)) rfl a2p rfl rfl rfl rfl rfl ?_);intro g25 w25 m25
     have R25:=hjd (show a2b [UInt8.ofNat i,tag] (.slice (some ⟨g25,0,none⟩) 2 2) w25 from Blk.rd (cs:=bv [UInt8.ofNat i,tag]) m25.blk rfl (Nat.le_refl _))
     replace KK:=hjd (KK.out.a0f m25.kept)
     replace H:=hjd (H.out.kept m25.kept)
     replace B9:=hjd (B9.out.kept m25.kept (by simp))
     clear m25)
  | ((with_reducible refine a0e 28 ?_);(refine a5h (o:=⟨some 28,_,_,_,_,_⟩) (v0:=.slice (some ⟨g25,0,none⟩) 2 2) (v1:=.slice (some ⟨g9,0,none⟩) 64 64) (v2:=.slice BA body.length bc) rfl a5i rfl rfl rfl rfl rfl rfl rfl ?_);intro gp wp mp
     have PP:=hjd (b7i mp.blk (R25.out.a0o mp.kept) (show a2b SG _ wp from by unfold a2b;rw [hg.out];exact Blk.rd (B9.out.kept mp.kept (by simp)) (by simp [hg.out]) (Nat.le_refl _)) ((hm.out.a0o KK.out).a0o mp.kept))
     replace KK:=hjd (KK.out.a0f mp.kept)
     replace H:=hjd (H.out.kept mp.kept)
     replace B9:=hjd (B9.out.kept mp.kept (by simp))
     clear mp R25)
  | (go_at_call 50;(with_reducible refine(a7n _ _ _ PP.out (by simp) (by rw [hjo.out,hKl.out];have:=hml.out;omega)).mono ?_);rintro e v29 ⟨x29,rfl,hn⟩
     rw [hjo.out]at hn
     have R29:=hjd hn.rd
     replace KK:=hjd (KK.out.a0f hn.kept)
     replace H:=hjd (H.out.kept hn.kept)
     replace B9:=hjd (B9.out.kept hn.kept (by simp))
     have q1:v29.cell? ⟨r,1,none⟩=some (.map (some b)):=by rw [H.out.blk.cell];rfl
     have q0:v29.cell? ⟨r,0,none⟩=some (.slice KA keys.length kc):=by rw [H.out.blk.cell];rfl
     clear hn PP)
  | ((with_reducible refine a0e 30 ?_);refine b2i (o:=⟨some 30,_,_,_,_,_⟩) Try.underlying23 Try.underlying5 Try.underlying9 rfl (.tmp 29) rfl rfl R29.out ?_)
  | (at_lookup;refine wpList_lookup_own_int _ rfl _ _ _ rfl 9 3 .i64 sk Try.underlying91 Try.underlying3 (c8k _) b n D rfl (mp.kept KK.out (by simp)) (.string (mkS K)) (.string K) rfl hkey.out ?_
     intro c' hc' _
     obtain rfl:c'=0:=by
      have:=hat.out
      unfold atM at this
      rw [hc']at this
      injection this with this
      injection this
     clear hc'))
 obtain⟨pre,post,hpp,hpl⟩:=a6b hi.out H.out.len
 have hKey:=hjd (H.out.len (keys.getD i []) (by rw [show keys.getD i []=keys[i]'(hi.out)from by simp [List.getD_eq_getElem?_getD,hi.out]];exact List.getElem_mem _))
 obtain⟨kb,ko,c2,he2,_,_⟩:=H.out.rows.at_ (by have:=hi.out;omega)
 cases he2
 have hrng:=hjd (Rd.elem (i:=i) H.out.rows hpp hpl (by have:=hi.out;omega))
 generalize hky:keys.getD i []=key at *
 replace hky:=hjd hky
 have hmv:=hjd (show a2b body (.slice BA body.length bc) v29.drew from hm.out.a0o KK.out.drew)
 refine Txt.a2z (by kernel_rfl) (by kernel_rfl) ?_
 go_wp2_with (first
  | ((with_reducible refine a0e 46 ?_);refine a3x (o:=⟨some 46,_,_,_,_,_⟩) a7r rfl (.tmp 44) (.tmp 45) rfl rfl rfl hi.out ?_)
  | ((with_reducible refine a0e 47 ?_);refine a0z (o:=⟨some 47,_,_,_,_,_⟩) (cs:=bv key) a2k.row rfl (.tmp 46) rfl rfl hrng.out (by simpa using hKey.out) ?_)
  | ((with_reducible refine a0e 50 ?_);refine a0d (cs:=(bv SG).toArray) (o:=⟨some 50,_,_,_,_,_⟩) Q.a8z rfl (.tmp 9) rfl rfl B9.out.drew (by simpa using hg.out) ?_)
  | (go_at_call 16;(with_reducible refine(co.out _ hmv.out).mono ?_);rintro e v51 ⟨rfl,k51⟩
     have K51:=hjd (KK.out.a0f k51.a1r)
     have H51:=hjd (H.out.kept k51.a1r)
     have q1:v51.cell? ⟨r,1,none⟩=some (.map (some b)):=by rw [H51.out.blk.cell];rfl
     clear k51))
 refine⟨rfl,by kernel_rfl,?_⟩
 go_wp2_with (first
  | (at_len;refine wpList_len_own _ rfl _ 91 rfl 9 3 Try.underlying91 _ b n D rfl (mp.kept K51.out (by simp)) ?_)
  | (at_mapUpdate;refine wpList_mapUpdate_own _ rfl _ _ _ 91 rfl 9 3 sk Try.underlying91 _ b (Maps.size D) D rfl (oM.tight (mp.kept K51.out (by simp))) (by simp only [maxLen];omega) (.string (mkS K)) (.int .i64 2) (.string K) rfl rfl hkey.out (.lit (.int .i64 2)) [] (plainElem_int Try.underlying3 (by decide)) ?_
     intro w9 own9 grow9))
 go_ret
 have kb:=Kept.grown grow9
 have hs:=c2s.put H51.out.seen H51.out.isMap H51.out.few hi.out hg.out (tag:=tag) (body:=body) (c:=2) (by decide) (by rw [hky.out];simp [hok.out])
 have hK2:=hK.out
 unfold a4o at hK2
 rw [hK2]at hs
 exact⟨rfl,_,H51.out.e0p kb own9 hs (c0m H51.out.isMap),(Kept.of0 K51.out).trans' kb⟩
set_option maxHeartbeats 3200000 in
theorem b0d{w:World}{r b:Nat}{kv:Value}{keys:List (List UInt8)}{D:DU}{i:Nat}{tag:UInt8}{SG body:List UInt8}(h:Rg w r kv keys b D)(hi:i < keys.length)(hg:SG.length=64)(mv:Value)(hm:a2b body mv w)(hml:body.length≤140737488351900)(hat:atM D (a4o i tag SG body)= .lit (.int .i64 0))(hok:okV (keys.getD i []) SG (a4w tag body)=false)(hroom:¬Maps.size D < 16384)
 (co:∀u,a2b body mv u→Calls Try.prog 16 #[ab (keys.getD i []),.int .u8 (tag.toNat:Int),mv,ab SG] u fun e w'=>e= .returned (.bool false)∧Kept [] u w') :
 Calls Try.prog 15 #[.pointer (some ⟨r,0,none⟩),.int .i64 (i:Int),.int .u8 (tag.toNat:Int),mv,ab SG] w fun e w'=>e= .returned (.bool false)∧∃D',Rg w' r kv keys b D'∧Kept [b] w w':=by
 obtain⟨KA,kc,e0,_⟩:=h.rows
 subst e0
 obtain⟨BA,bc,e1,_⟩:=id hm
 subst e1
 have hlt7:=h.few
 obtain⟨n,mp⟩:=h.map
 have H:=hjd h
 have hx0:¬((i:Int) < 0):=by omega
 have hx1:¬((keys.length:Int)≤(i:Int)):=by omega
 have hi8:IntKind.u8.wrap (i:Int)=((UInt8.ofNat i).toNat:Int):=by
  rw [UInt8.toNat_ofNat_of_lt' (by show i < 256;omega),IntKind.wrap_u8]
  omega
 have hKl:=hjd (show(a4o i tag SG body).length=66 + body.length by unfold a4o;simp [hg];omega)
 have hkey:=Go.WideMaps.keyOf_string_mk Try.underlying9 (s:=mkS (a4o i tag SG body)) (by show(a4o i tag SG body).length≤maxLen;rw [hKl.out];simp only [maxLen];omega)
 have hkd:(mkS (a4o i tag SG body)).data.toList=a4o i tag SG body:=by simp [mkS]
 rw [hkd]at hkey
 replace hkey:=hjd hkey
 have hjo:=hjd (show∀v1 v2 v3:Value,a1c [(v1,[UInt8.ofNat i,tag]),(v2,SG),(v3,body)]=a4o i tag SG body from fun _ _ _=>by simp [a1c,bytesOf,a4o])
 generalize hK:a4o i tag SG body=K at *
 replace hK:=hjd hK
 replace hat:=hjd hat
 have hm:=hjd hm
 have hg:=hjd hg
 have hi:=hjd hi
 have hml:=hjd hml
 have KK:=hjd (Kept.refl [] w)
 clear h hkd
 replace co:=hjd co
 replace hok:=hjd hok
 go_enter Try.func15,Try.ntmps15
 go_wp2_with (first
  | ((with_reducible refine a0e 9 ?_);(refine a0p (o:=⟨some 9,_,_,_,_,_⟩) (v:=ab SG) rfl (.tmp 4) rfl rfl ?_);intro g9 w9 m9;have B9:=hjd (show Blk w9 g9 24 (bv SG).toArray from m9.blk);replace KK:=hjd (KK.out.a0f m9.kept);replace H:=hjd (H.out.kept m9.kept);clear m9)
  | (go_at_call 19;(with_reducible refine(a5l H.out).mono ?_);rintro e v ⟨rfl,rfl⟩)
  | ((with_reducible refine a0e 25 ?_);(refine a4t (o:=⟨some 25,_,_,_,_,_⟩) (v0:=.int .u8 ((UInt8.ofNat i).toNat:Int)) (v1:=.int .u8 (tag.toNat:Int)) rfl a2p rfl rfl rfl rfl rfl ?_);intro g25 w25 m25
     have R25:=hjd (show a2b [UInt8.ofNat i,tag] (.slice (some ⟨g25,0,none⟩) 2 2) w25 from Blk.rd (cs:=bv [UInt8.ofNat i,tag]) m25.blk rfl (Nat.le_refl _))
     replace KK:=hjd (KK.out.a0f m25.kept)
     replace H:=hjd (H.out.kept m25.kept)
     replace B9:=hjd (B9.out.kept m25.kept (by simp))
     clear m25)
  | ((with_reducible refine a0e 28 ?_);(refine a5h (o:=⟨some 28,_,_,_,_,_⟩) (v0:=.slice (some ⟨g25,0,none⟩) 2 2) (v1:=.slice (some ⟨g9,0,none⟩) 64 64) (v2:=.slice BA body.length bc) rfl a5i rfl rfl rfl rfl rfl rfl rfl ?_);intro gp wp mp
     have PP:=hjd (b7i mp.blk (R25.out.a0o mp.kept) (show a2b SG _ wp from by unfold a2b;rw [hg.out];exact Blk.rd (B9.out.kept mp.kept (by simp)) (by simp [hg.out]) (Nat.le_refl _)) ((hm.out.a0o KK.out).a0o mp.kept))
     replace KK:=hjd (KK.out.a0f mp.kept)
     replace H:=hjd (H.out.kept mp.kept)
     replace B9:=hjd (B9.out.kept mp.kept (by simp))
     clear mp R25)
  | (go_at_call 50;(with_reducible refine(a7n _ _ _ PP.out (by simp) (by rw [hjo.out,hKl.out];have:=hml.out;omega)).mono ?_);rintro e v29 ⟨x29,rfl,hn⟩
     rw [hjo.out]at hn
     have R29:=hjd hn.rd
     replace KK:=hjd (KK.out.a0f hn.kept)
     replace H:=hjd (H.out.kept hn.kept)
     replace B9:=hjd (B9.out.kept hn.kept (by simp))
     have q1:v29.cell? ⟨r,1,none⟩=some (.map (some b)):=by rw [H.out.blk.cell];rfl
     have q0:v29.cell? ⟨r,0,none⟩=some (.slice KA keys.length kc):=by rw [H.out.blk.cell];rfl
     clear hn PP)
  | ((with_reducible refine a0e 30 ?_);refine b2i (o:=⟨some 30,_,_,_,_,_⟩) Try.underlying23 Try.underlying5 Try.underlying9 rfl (.tmp 29) rfl rfl R29.out ?_)
  | (at_lookup;refine wpList_lookup_own_int _ rfl _ _ _ rfl 9 3 .i64 sk Try.underlying91 Try.underlying3 (c8k _) b n D rfl (mp.kept KK.out (by simp)) (.string (mkS K)) (.string K) rfl hkey.out ?_
     intro c' hc' _
     obtain rfl:c'=0:=by
      have:=hat.out
      unfold atM at this
      rw [hc']at this
      injection this with this
      injection this
     clear hc'))
 obtain⟨pre,post,hpp,hpl⟩:=a6b hi.out H.out.len
 have hKey:=hjd (H.out.len (keys.getD i []) (by rw [show keys.getD i []=keys[i]'(hi.out)from by simp [List.getD_eq_getElem?_getD,hi.out]];exact List.getElem_mem _))
 obtain⟨kb,ko,c2,he2,_,_⟩:=H.out.rows.at_ (by have:=hi.out;omega)
 cases he2
 have hrng:=hjd (Rd.elem (i:=i) H.out.rows hpp hpl (by have:=hi.out;omega))
 generalize hky:keys.getD i []=key at *
 replace hky:=hjd hky
 have hmv:=hjd (show a2b body (.slice BA body.length bc) v29.drew from hm.out.a0o KK.out.drew)
 refine Txt.a2z (by kernel_rfl) (by kernel_rfl) ?_
 go_wp2_with (first
  | ((with_reducible refine a0e 46 ?_);refine a3x (o:=⟨some 46,_,_,_,_,_⟩) a7r rfl (.tmp 44) (.tmp 45) rfl rfl rfl hi.out ?_)
  | ((with_reducible refine a0e 47 ?_);refine a0z (o:=⟨some 47,_,_,_,_,_⟩) (cs:=bv key) a2k.row rfl (.tmp 46) rfl rfl hrng.out (by simpa using hKey.out) ?_)
  | ((with_reducible refine a0e 50 ?_);refine a0d (cs:=(bv SG).toArray) (o:=⟨some 50,_,_,_,_,_⟩) Q.a8z rfl (.tmp 9) rfl rfl B9.out.drew (by simpa using hg.out) ?_)
  | (go_at_call 16;(with_reducible refine(co.out _ hmv.out).mono ?_);rintro e v51 ⟨rfl,k51⟩
     have K51:=hjd (KK.out.a0f k51.a1r)
     have H51:=hjd (H.out.kept k51.a1r)
     have q1:v51.cell? ⟨r,1,none⟩=some (.map (some b)):=by rw [H51.out.blk.cell];rfl
     clear k51))
 refine⟨rfl,by kernel_rfl,?_⟩
 go_wp2_with (first
  | (at_len;refine wpList_len_own _ rfl _ 91 rfl 9 3 Try.underlying91 _ b n D rfl (mp.kept K51.out (by simp)) ?_)
  | (at_mapUpdate;refine wpList_mapUpdate_own _ rfl _ _ _ 91 rfl 9 3 sk Try.underlying91 _ b (Maps.size D) D rfl (oM.tight (mp.kept K51.out (by simp))) (by simp only [maxLen];omega) (.string (mkS K)) (.int .i64 2) (.string K) rfl rfl hkey.out (.lit (.int .i64 2)) [] (plainElem_int Try.underlying3 (by decide)) ?_
     intro w9 own9 grow9))
 go_ret
 exact⟨rfl,D,H51.out,Kept.of0 K51.out⟩
theorem d7d{w:World}{r b:Nat}{kv:Value}{keys:List (List UInt8)}{D:DU}{i:Nat}(tag:UInt8){SG:List UInt8}(body:List UInt8)(h:Rg w r kv keys b D)(hi:i < keys.length)(hg:SG.length=64)(mv:Value)(hm:a2b body mv w)(hml:body.length≤140737488351900) :
 Calls Try.prog 15 #[.pointer (some ⟨r,0,none⟩),.int .i64 (i:Int),.int .u8 (tag.toNat:Int),mv,ab SG] w fun e w'=>e= .returned (.bool (okV (keys.getD i []) SG (a4w tag body)))∧∃D',Rg w' r kv keys b D'∧Kept [b] w w':=by
 have hk32:=h.len (keys.getD i []) (by rw [show keys.getD i []=keys[i]from by simp [List.getD_eq_getElem?_getD,hi]];exact List.getElem_mem _)
 have co:=fun u (hu:a2b body mv u)=>c1i (key:=keys.getD i []) (SG:=SG) tag hk32 hg mv body u hu hml
 rcases h.seen (a4o i tag SG body)with hat | ⟨c,hc,hat,hp⟩
 ·cases hok:okV (keys.getD i []) SG (a4w tag body)with
  | true=>
    rw [hok]at co
    by_cases hr:Maps.size D < 16384
    ·exact b5w h hi hg mv hm hml hat hok hr co
    ·exact b0n h hi hg mv hm hml hat hok hr co
  | false=>
    rw [hok]at co
    by_cases hr:Maps.size D < 16384
    ·exact b4p h hi hg mv hm hml hat hok hr co
    ·exact b0d h hi hg mv hm hml hat hok hr co
 ·have hq:=hp i tag SG body rfl hi hg
  rcases hc with rfl | rfl
  ·rw [hq.1 rfl]
   refine(d1i h hi hg mv hm hml hat).mono ?_
   rintro e w' ⟨rfl,k⟩
   exact⟨rfl,D,h.kept k,Kept.of0 k⟩
  ·have:okV (keys.getD i []) SG (a4w tag body)=false:=by
    cases ho:okV (keys.getD i []) SG (a4w tag body)with
    | false=>rfl
    | true=>exact absurd (hq.2 ho) (by decide)
   rw [this]
   refine(d2f h hi hg mv hm hml hat).mono ?_
   rintro e w' ⟨rfl,k⟩
   exact⟨rfl,D,h.kept k,Kept.of0 k⟩
end Go.Proofs.Ytdbngnlpafcogaa
