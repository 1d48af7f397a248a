/-
  The ring: Open.
-/
import Derived.Test.YtdbngnlpafcogaaGreatZcJ02
set_option maxRecDepth 100000
namespace Go.Proofs.YtdbngnlpafcogaaGreat
open Go.RowKit Go.Mem Go.Txt
theorem b0w:SliceT Tryz.prog 106 22 32 32 (ab (a0m 32)):=⟨Tryz.underlying106,by kernel_rfl,rfl,by omega⟩
theorem d0g(w:World):(zeroValue 3).run Tryz.prog w= .ok (.int .i64 0) w:=by kernel_rfl
theorem b8b{w:World}{g:Nat}{t:TypeId}{v1 v2 v3:Value}{x1 x2 x3:List UInt8}(hb:Blk w g t #[v1,v2,v3])(h1:a1o x1 v1 w)(h2:a1o x2 v2 w)(h3:a1o x3 v3 w):Parts w (.slice (some ⟨g,0,none⟩) 3 3) [(v1,x1),(v2,x2),(v3,x3)]:=by
 refine⟨⟨_,_,rfl,rfl,Nat.le_refl _,fun _=>⟨g,0,rfl,fun j u hu=>by rw [hb.cell,Nat.zero_add];simpa using hu⟩⟩,fun p hp=>?_⟩;simp only [List.mem_cons,List.not_mem_nil,or_false]at hp;rcases hp with rfl | rfl | rfl
 ·exact h1
 ·exact h2
 ·exact h3
theorem a8d{keys:List (List UInt8)}{i:Nat}(h:i < keys.length)(hk:∀k∈keys,k.length=32):∃pre post,keys.flatMap bv=pre ++ (bv (keys.getD i []) ++ post)∧pre.length=i * 32:=by
 have e:keys=keys.take i ++ (keys[i] :: keys.drop (i + 1)):=by rw [List.getElem_cons_drop];exact(List.take_append_drop i keys).symm
 have hg:keys.getD i []=keys[i]:=by simp [List.getD_eq_getElem?_getD,h]
 refine⟨(keys.take i).flatMap bv,(keys.drop (i + 1)).flatMap bv,?_,?_⟩
 ·conv=>lhs;rw [e]
  rw [List.flatMap_append,List.flatMap_cons,hg]
 ·rw [c6y (fun k hm=>hk k (List.mem_of_mem_take hm)),List.length_take,Nat.min_eq_left (by omega)]
theorem oM.lt{w:World}{b n:Nat}{D:DU}(m:oM w b n D):b < w.heap.size:=World.ownsMap.lt m
theorem c1e{D:DU}{k:Lit}{d:DU}(h:Maps.IsMap D):Maps.IsMap (D.put k d):=by
 obtain⟨es,rfl⟩:=h;exact⟨_,rfl⟩
def a4u(i:Nat)(tag:UInt8)(SG body:List UInt8):List UInt8:=UInt8.ofNat i :: tag :: (SG ++ body)
set_option maxHeartbeats 3200000 in
theorem d2o{w:World}{r b:Nat}{kv:Value}{keys:List (List UInt8)}{D:DU}{i:Nat}{tag:UInt8}{SG body:List UInt8}(h:Rg w r kv keys b D)(hi:i < keys.length)(hg:SG.length=64)(mv:Value)(hm:a1o body mv w)(hml:body.length≤140737488351900)(hat:atM D (a4u i tag SG body)= .lit (.int .i64 1)) :
 Calls Tryz.prog 145 #[.pointer (some ⟨r,0,none⟩),.int .i64 (i:Int),.int .u8 (tag.toNat:Int),mv,ab SG] w fun e w'=>e= .returned (.bool true)∧Kept [] w w':=by
 obtain⟨KA,kc,e0,_⟩:=h.rows;subst e0;obtain⟨BA,bc,e1,_⟩:=id hm;subst e1;have hlt7:=h.few;obtain⟨n,mp⟩:=h.map;have H:=hjd h;have hx0:¬((i:Int) < 0):=by omega
 have hx1:¬((keys.length:Int)≤(i:Int)):=by omega
 have hi8:IntKind.u8.wrap (i:Int)=((UInt8.ofNat i).toNat:Int):=by
  rw [UInt8.toNat_ofNat_of_lt' (by show i < 256;omega),IntKind.wrap_u8];omega
 have hKl:=hjd (show(a4u i tag SG body).length=66 + body.length by unfold a4u;simp [hg];omega);have hkey:=Go.WideMaps.keyOf_string_mk Tryz.underlying9 (s:=mkS (a4u i tag SG body)) (by show(a4u i tag SG body).length≤maxLen;rw [hKl.out];simp only [maxLen];omega);have hkd:(mkS (a4u i tag SG body)).data.toList=a4u i tag SG body:=by simp [mkS]
 rw [hkd]at hkey;replace hkey:=hjd hkey;have hjo:=hjd (show∀v1 v2 v3:Value,a0z [(v1,[UInt8.ofNat i,tag]),(v2,SG),(v3,body)]=a4u i tag SG body from fun _ _ _=>by simp [a0z,bytesOf,a4u]);generalize hK:a4u i tag SG body=K at *;replace hK:=hjd hK;replace hat:=hjd hat;have hm:=hjd hm;have hg:=hjd hg;have hi:=hjd hi;have hml:=hjd hml;have KK:=hjd (Kept.refl [] w);clear h hkd;go_enter Tryz.func145,Tryz.ntmps145;go_wp2_with (first
  | ((with_reducible refine a0f 9 ?_);(refine a0q (o:=⟨some 9,_,_,_,_,_⟩) (v:=ab SG) rfl (.tmp 4) rfl rfl ?_);intro g9 w9 m9;have B9:=hjd (show Blk w9 g9 32 (bv SG).toArray from m9.blk);replace KK:=hjd (KK.out.a0g m9.kept);replace H:=hjd (H.out.kept m9.kept);clear m9)
  | (go_at_call 148;(with_reducible refine(a6h H.out).mono ?_);rintro e v ⟨rfl,rfl⟩)
  | ((with_reducible refine a0f 25 ?_);(refine a3c (o:=⟨some 25,_,_,_,_,_⟩) (v0:=.int .u8 ((UInt8.ofNat i).toNat:Int)) (v1:=.int .u8 (tag.toNat:Int)) rfl a1x rfl rfl rfl rfl rfl ?_);intro g25 w25 m25;have R25:=hjd (show a1o [UInt8.ofNat i,tag] (.slice (some ⟨g25,0,none⟩) 2 2) w25 from Blk.rd (cs:=bv [UInt8.ofNat i,tag]) m25.blk rfl (Nat.le_refl _));replace KK:=hjd (KK.out.a0g m25.kept);replace H:=hjd (H.out.kept m25.kept);replace B9:=hjd (B9.out.kept m25.kept (by simp));clear m25)
  | ((with_reducible refine a0f 28 ?_);(refine a5m (o:=⟨some 28,_,_,_,_,_⟩) (v0:=.slice (some ⟨g25,0,none⟩) 2 2) (v1:=.slice (some ⟨g9,0,none⟩) 64 64) (v2:=.slice BA body.length bc) rfl a4j rfl rfl rfl rfl rfl rfl rfl ?_);intro gp wp mp;have PP:=hjd (b8b mp.blk (R25.out.a0k mp.kept) (show a1o SG _ wp from by unfold a1o;rw [hg.out];exact Blk.rd (B9.out.kept mp.kept (by simp)) (by simp [hg.out]) (Nat.le_refl _)) ((hm.out.a0k KK.out).a0k mp.kept));replace KK:=hjd (KK.out.a0g mp.kept);replace H:=hjd (H.out.kept mp.kept);replace B9:=hjd (B9.out.kept mp.kept (by simp));clear mp R25)
  | (go_at_call 64;(with_reducible refine(a5u _ _ _ PP.out (by simp) (by rw [hjo.out,hKl.out];have:=hml.out;omega)).mono ?_);rintro e v29 ⟨x29,rfl,hn⟩;rw [hjo.out]at hn;have R29:=hjd hn.rd;replace KK:=hjd (KK.out.a0g hn.kept);replace H:=hjd (H.out.kept hn.kept);replace B9:=hjd (B9.out.kept hn.kept (by simp));have q1:v29.cell? ⟨r,1,none⟩=some (.map (some b)):=by rw [H.out.blk.cell];rfl
     have q0:v29.cell? ⟨r,0,none⟩=some (.slice KA keys.length kc):=by rw [H.out.blk.cell];rfl
     clear hn PP)
  | ((with_reducible refine a0f 30 ?_);refine b3f (o:=⟨some 30,_,_,_,_,_⟩) Tryz.underlying23 Tryz.underlying5 Tryz.underlying9 rfl (.tmp 29) rfl rfl R29.out ?_)
  | (at_lookup;refine wpList_lookup_own_int _ rfl _ _ _ rfl 9 3 .i64 sk Tryz.underlying218 Tryz.underlying3 (d0g _) b n D rfl (mp.kept KK.out (by simp)) (.string (mkS K)) (.string K) rfl hkey.out ?_;intro c' hc' _;obtain rfl:c'=1:=by
      have:=hat.out;unfold atM at this;rw [hc']at this;injection this with this
      injection this
     clear hc'))
 go_ret;exact⟨rfl,KK.out⟩
set_option maxHeartbeats 3200000 in
theorem d3w{w:World}{r b:Nat}{kv:Value}{keys:List (List UInt8)}{D:DU}{i:Nat}{tag:UInt8}{SG body:List UInt8}(h:Rg w r kv keys b D)(hi:i < keys.length)(hg:SG.length=64)(mv:Value)(hm:a1o body mv w)(hml:body.length≤140737488351900)(hat:atM D (a4u i tag SG body)= .lit (.int .i64 2)) :
 Calls Tryz.prog 145 #[.pointer (some ⟨r,0,none⟩),.int .i64 (i:Int),.int .u8 (tag.toNat:Int),mv,ab SG] w fun e w'=>e= .returned (.bool false)∧Kept [] w w':=by
 obtain⟨KA,kc,e0,_⟩:=h.rows;subst e0;obtain⟨BA,bc,e1,_⟩:=id hm;subst e1;have hlt7:=h.few;obtain⟨n,mp⟩:=h.map;have H:=hjd h;have hx0:¬((i:Int) < 0):=by omega
 have hx1:¬((keys.length:Int)≤(i:Int)):=by omega
 have hi8:IntKind.u8.wrap (i:Int)=((UInt8.ofNat i).toNat:Int):=by
  rw [UInt8.toNat_ofNat_of_lt' (by show i < 256;omega),IntKind.wrap_u8];omega
 have hKl:=hjd (show(a4u i tag SG body).length=66 + body.length by unfold a4u;simp [hg];omega);have hkey:=Go.WideMaps.keyOf_string_mk Tryz.underlying9 (s:=mkS (a4u i tag SG body)) (by show(a4u i tag SG body).length≤maxLen;rw [hKl.out];simp only [maxLen];omega);have hkd:(mkS (a4u i tag SG body)).data.toList=a4u i tag SG body:=by simp [mkS]
 rw [hkd]at hkey;replace hkey:=hjd hkey;have hjo:=hjd (show∀v1 v2 v3:Value,a0z [(v1,[UInt8.ofNat i,tag]),(v2,SG),(v3,body)]=a4u i tag SG body from fun _ _ _=>by simp [a0z,bytesOf,a4u]);generalize hK:a4u i tag SG body=K at *;replace hK:=hjd hK;replace hat:=hjd hat;have hm:=hjd hm;have hg:=hjd hg;have hi:=hjd hi;have hml:=hjd hml;have KK:=hjd (Kept.refl [] w);clear h hkd;go_enter Tryz.func145,Tryz.ntmps145;go_wp2_with (first
  | ((with_reducible refine a0f 9 ?_);(refine a0q (o:=⟨some 9,_,_,_,_,_⟩) (v:=ab SG) rfl (.tmp 4) rfl rfl ?_);intro g9 w9 m9;have B9:=hjd (show Blk w9 g9 32 (bv SG).toArray from m9.blk);replace KK:=hjd (KK.out.a0g m9.kept);replace H:=hjd (H.out.kept m9.kept);clear m9)
  | (go_at_call 148;(with_reducible refine(a6h H.out).mono ?_);rintro e v ⟨rfl,rfl⟩)
  | ((with_reducible refine a0f 25 ?_);(refine a3c (o:=⟨some 25,_,_,_,_,_⟩) (v0:=.int .u8 ((UInt8.ofNat i).toNat:Int)) (v1:=.int .u8 (tag.toNat:Int)) rfl a1x rfl rfl rfl rfl rfl ?_);intro g25 w25 m25;have R25:=hjd (show a1o [UInt8.ofNat i,tag] (.slice (some ⟨g25,0,none⟩) 2 2) w25 from Blk.rd (cs:=bv [UInt8.ofNat i,tag]) m25.blk rfl (Nat.le_refl _));replace KK:=hjd (KK.out.a0g m25.kept);replace H:=hjd (H.out.kept m25.kept);replace B9:=hjd (B9.out.kept m25.kept (by simp));clear m25)
  | ((with_reducible refine a0f 28 ?_);(refine a5m (o:=⟨some 28,_,_,_,_,_⟩) (v0:=.slice (some ⟨g25,0,none⟩) 2 2) (v1:=.slice (some ⟨g9,0,none⟩) 64 64) (v2:=.slice BA body.length bc) rfl a4j rfl rfl rfl rfl rfl rfl rfl ?_);intro gp wp mp;have PP:=hjd (b8b mp.blk (R25.out.a0k mp.kept) (show a1o SG _ wp from by unfold a1o;rw [hg.out];exact Blk.rd (B9.out.kept mp.kept (by simp)) (by simp [hg.out]) (Nat.le_refl _)) ((hm.out.a0k KK.out).a0k mp.kept));replace KK:=hjd (KK.out.a0g mp.kept);replace H:=hjd (H.out.kept mp.kept);replace B9:=hjd (B9.out.kept mp.kept (by simp));clear mp R25)
  | (go_at_call 64;(with_reducible refine(a5u _ _ _ PP.out (by simp) (by rw [hjo.out,hKl.out];have:=hml.out;omega)).mono ?_);rintro e v29 ⟨x29,rfl,hn⟩;rw [hjo.out]at hn;have R29:=hjd hn.rd;replace KK:=hjd (KK.out.a0g hn.kept);replace H:=hjd (H.out.kept hn.kept);replace B9:=hjd (B9.out.kept hn.kept (by simp));have q1:v29.cell? ⟨r,1,none⟩=some (.map (some b)):=by rw [H.out.blk.cell];rfl
     have q0:v29.cell? ⟨r,0,none⟩=some (.slice KA keys.length kc):=by rw [H.out.blk.cell];rfl
     clear hn PP)
  | ((with_reducible refine a0f 30 ?_);refine b3f (o:=⟨some 30,_,_,_,_,_⟩) Tryz.underlying23 Tryz.underlying5 Tryz.underlying9 rfl (.tmp 29) rfl rfl R29.out ?_)
  | (at_lookup;refine wpList_lookup_own_int _ rfl _ _ _ rfl 9 3 .i64 sk Tryz.underlying218 Tryz.underlying3 (d0g _) b n D rfl (mp.kept KK.out (by simp)) (.string (mkS K)) (.string K) rfl hkey.out ?_;intro c' hc' _;obtain rfl:c'=2:=by
      have:=hat.out;unfold atM at this;rw [hc']at this;injection this with this
      injection this
     clear hc'))
 go_ret;exact⟨rfl,KK.out⟩
set_option maxHeartbeats 3200000 in
theorem b7f{w:World}{r b:Nat}{kv:Value}{keys:List (List UInt8)}{D:DU}{i:Nat}{tag:UInt8}{SG body:List UInt8}(h:Rg w r kv keys b D)(hi:i < keys.length)(hg:SG.length=64)(mv:Value)(hm:a1o body mv w)(hml:body.length≤140737488351900)(hat:atM D (a4u i tag SG body)= .lit (.int .i64 0))(hok:okV (keys.getD i []) SG (a5o tag body)=true)(hroom:Maps.size D < 16384)
 (co:∀u,a1o body mv u→Calls Tryz.prog 126 #[ab (keys.getD i []),.int .u8 (tag.toNat:Int),mv,ab SG] u fun e w'=>e= .returned (.bool true)∧Kept [] u w') :
 Calls Tryz.prog 145 #[.pointer (some ⟨r,0,none⟩),.int .i64 (i:Int),.int .u8 (tag.toNat:Int),mv,ab SG] w fun e w'=>e= .returned (.bool true)∧∃D',Rg w' r kv keys b D'∧Kept [b] w w':=by
 obtain⟨KA,kc,e0,_⟩:=h.rows;subst e0;obtain⟨BA,bc,e1,_⟩:=id hm;subst e1;have hlt7:=h.few;obtain⟨n,mp⟩:=h.map;have H:=hjd h;have hx0:¬((i:Int) < 0):=by omega
 have hx1:¬((keys.length:Int)≤(i:Int)):=by omega
 have hi8:IntKind.u8.wrap (i:Int)=((UInt8.ofNat i).toNat:Int):=by
  rw [UInt8.toNat_ofNat_of_lt' (by show i < 256;omega),IntKind.wrap_u8];omega
 have hKl:=hjd (show(a4u i tag SG body).length=66 + body.length by unfold a4u;simp [hg];omega);have hkey:=Go.WideMaps.keyOf_string_mk Tryz.underlying9 (s:=mkS (a4u i tag SG body)) (by show(a4u i tag SG body).length≤maxLen;rw [hKl.out];simp only [maxLen];omega);have hkd:(mkS (a4u i tag SG body)).data.toList=a4u i tag SG body:=by simp [mkS]
 rw [hkd]at hkey;replace hkey:=hjd hkey;have hjo:=hjd (show∀v1 v2 v3:Value,a0z [(v1,[UInt8.ofNat i,tag]),(v2,SG),(v3,body)]=a4u i tag SG body from fun _ _ _=>by simp [a0z,bytesOf,a4u]);generalize hK:a4u i tag SG body=K at *;replace hK:=hjd hK;replace hat:=hjd hat;have hm:=hjd hm;have hg:=hjd hg;have hi:=hjd hi;have hml:=hjd hml;have KK:=hjd (Kept.refl [] w);clear h hkd;replace co:=hjd co;replace hok:=hjd hok;go_enter Tryz.func145,Tryz.ntmps145;go_wp2_with (first
  | ((with_reducible refine a0f 9 ?_);(refine a0q (o:=⟨some 9,_,_,_,_,_⟩) (v:=ab SG) rfl (.tmp 4) rfl rfl ?_);intro g9 w9 m9;have B9:=hjd (show Blk w9 g9 32 (bv SG).toArray from m9.blk);replace KK:=hjd (KK.out.a0g m9.kept);replace H:=hjd (H.out.kept m9.kept);clear m9)
  | (go_at_call 148;(with_reducible refine(a6h H.out).mono ?_);rintro e v ⟨rfl,rfl⟩)
  | ((with_reducible refine a0f 25 ?_);(refine a3c (o:=⟨some 25,_,_,_,_,_⟩) (v0:=.int .u8 ((UInt8.ofNat i).toNat:Int)) (v1:=.int .u8 (tag.toNat:Int)) rfl a1x rfl rfl rfl rfl rfl ?_);intro g25 w25 m25;have R25:=hjd (show a1o [UInt8.ofNat i,tag] (.slice (some ⟨g25,0,none⟩) 2 2) w25 from Blk.rd (cs:=bv [UInt8.ofNat i,tag]) m25.blk rfl (Nat.le_refl _));replace KK:=hjd (KK.out.a0g m25.kept);replace H:=hjd (H.out.kept m25.kept);replace B9:=hjd (B9.out.kept m25.kept (by simp));clear m25)
  | ((with_reducible refine a0f 28 ?_);(refine a5m (o:=⟨some 28,_,_,_,_,_⟩) (v0:=.slice (some ⟨g25,0,none⟩) 2 2) (v1:=.slice (some ⟨g9,0,none⟩) 64 64) (v2:=.slice BA body.length bc) rfl a4j rfl rfl rfl rfl rfl rfl rfl ?_);intro gp wp mp;have PP:=hjd (b8b mp.blk (R25.out.a0k mp.kept) (show a1o SG _ wp from by unfold a1o;rw [hg.out];exact Blk.rd (B9.out.kept mp.kept (by simp)) (by simp [hg.out]) (Nat.le_refl _)) ((hm.out.a0k KK.out).a0k mp.kept));replace KK:=hjd (KK.out.a0g mp.kept);replace H:=hjd (H.out.kept mp.kept);replace B9:=hjd (B9.out.kept mp.kept (by simp));clear mp R25)
  | (go_at_call 64;(with_reducible refine(a5u _ _ _ PP.out (by simp) (by rw [hjo.out,hKl.out];have:=hml.out;omega)).mono ?_);rintro e v29 ⟨x29,rfl,hn⟩;rw [hjo.out]at hn;have R29:=hjd hn.rd;replace KK:=hjd (KK.out.a0g hn.kept);replace H:=hjd (H.out.kept hn.kept);replace B9:=hjd (B9.out.kept hn.kept (by simp));have q1:v29.cell? ⟨r,1,none⟩=some (.map (some b)):=by rw [H.out.blk.cell];rfl
     have q0:v29.cell? ⟨r,0,none⟩=some (.slice KA keys.length kc):=by rw [H.out.blk.cell];rfl
     clear hn PP)
  | ((with_reducible refine a0f 30 ?_);refine b3f (o:=⟨some 30,_,_,_,_,_⟩) Tryz.underlying23 Tryz.underlying5 Tryz.underlying9 rfl (.tmp 29) rfl rfl R29.out ?_)
  | (at_lookup;refine wpList_lookup_own_int _ rfl _ _ _ rfl 9 3 .i64 sk Tryz.underlying218 Tryz.underlying3 (d0g _) b n D rfl (mp.kept KK.out (by simp)) (.string (mkS K)) (.string K) rfl hkey.out ?_;intro c' hc' _;obtain rfl:c'=0:=by
      have:=hat.out;unfold atM at this;rw [hc']at this;injection this with this
      injection this
     clear hc'))
 obtain⟨pre,post,hpp,hpl⟩:=a8d hi.out H.out.len;have hKey:=hjd (H.out.len (keys.getD i []) (by rw [show keys.getD i []=keys[i]'(hi.out)from by simp [List.getD_eq_getElem?_getD,hi.out]];exact List.getElem_mem _));obtain⟨kb,ko,c2,he2,_,_⟩:=H.out.rows.at_ (by have:=hi.out;omega)
 cases he2
 have hrng:=hjd (Rd.elem (i:=i) H.out.rows hpp hpl (by have:=hi.out;omega));generalize hky:keys.getD i []=key at *;replace hky:=hjd hky;have hmv:=hjd (show a1o body (.slice BA body.length bc) v29.drew from hm.out.a0k KK.out.drew);refine Txt.a2g (by kernel_rfl) (by kernel_rfl) ?_;go_wp2_with (first
  | ((with_reducible refine a0f 46 ?_);refine a4t (o:=⟨some 46,_,_,_,_,_⟩) b0w rfl (.tmp 44) (.tmp 45) rfl rfl rfl hi.out ?_)
  | ((with_reducible refine a0f 47 ?_);refine a1i (o:=⟨some 47,_,_,_,_,_⟩) (cs:=bv key) a2u.row rfl (.tmp 46) rfl rfl hrng.out (by simpa using hKey.out) ?_)
  | ((with_reducible refine a0f 50 ?_);refine a0d (cs:=(bv SG).toArray) (o:=⟨some 50,_,_,_,_,_⟩) Q.b7e rfl (.tmp 9) rfl rfl B9.out.drew (by simpa using hg.out) ?_)
  | (go_at_call 126;(with_reducible refine(co.out _ hmv.out).mono ?_);rintro e v51 ⟨rfl,k51⟩;have K51:=hjd (KK.out.a0g k51.a1r);have H51:=hjd (H.out.kept k51.a1r);have q1:v51.cell? ⟨r,1,none⟩=some (.map (some b)):=by rw [H51.out.blk.cell];rfl
     clear k51))
 refine⟨rfl,by kernel_rfl,?_⟩;go_wp2_with (first
  | (at_len;refine wpList_len_own _ rfl _ 218 rfl 9 3 Tryz.underlying218 _ b n D rfl (mp.kept K51.out (by simp)) ?_)
  | (at_mapUpdate;refine wpList_mapUpdate_own _ rfl _ _ _ 218 rfl 9 3 sk Tryz.underlying218 _ b (Maps.size D) D rfl (oM.tight (mp.kept K51.out (by simp))) (by simp only [maxLen];omega) (.string (mkS K)) (.int .i64 1) (.string K) rfl rfl hkey.out (.lit (.int .i64 1)) [] (plainElem_int Tryz.underlying3 (by decide)) ?_;intro w9 own9 grow9))
 go_ret;have kb:=Kept.grown grow9;have hs:=c5i.put H51.out.seen H51.out.isMap H51.out.few hi.out hg.out (tag:=tag) (body:=body) (c:=1) (by decide) (by rw [hky.out];simp [hok.out]);have hK2:=hK.out;unfold a4u at hK2;rw [hK2]at hs;exact⟨rfl,_,H51.out.e3t kb own9 hs (c1e H51.out.isMap),(Kept.of0 K51.out).trans' kb⟩
set_option maxHeartbeats 3200000 in
theorem b0u{w:World}{r b:Nat}{kv:Value}{keys:List (List UInt8)}{D:DU}{i:Nat}{tag:UInt8}{SG body:List UInt8}(h:Rg w r kv keys b D)(hi:i < keys.length)(hg:SG.length=64)(mv:Value)(hm:a1o body mv w)(hml:body.length≤140737488351900)(hat:atM D (a4u i tag SG body)= .lit (.int .i64 0))(hok:okV (keys.getD i []) SG (a5o tag body)=true)(hroom:¬Maps.size D < 16384)
 (co:∀u,a1o body mv u→Calls Tryz.prog 126 #[ab (keys.getD i []),.int .u8 (tag.toNat:Int),mv,ab SG] u fun e w'=>e= .returned (.bool true)∧Kept [] u w') :
 Calls Tryz.prog 145 #[.pointer (some ⟨r,0,none⟩),.int .i64 (i:Int),.int .u8 (tag.toNat:Int),mv,ab SG] w fun e w'=>e= .returned (.bool true)∧∃D',Rg w' r kv keys b D'∧Kept [b] w w':=by
 obtain⟨KA,kc,e0,_⟩:=h.rows;subst e0;obtain⟨BA,bc,e1,_⟩:=id hm;subst e1;have hlt7:=h.few;obtain⟨n,mp⟩:=h.map;have H:=hjd h;have hx0:¬((i:Int) < 0):=by omega
 have hx1:¬((keys.length:Int)≤(i:Int)):=by omega
 have hi8:IntKind.u8.wrap (i:Int)=((UInt8.ofNat i).toNat:Int):=by
  rw [UInt8.toNat_ofNat_of_lt' (by show i < 256;omega),IntKind.wrap_u8];omega
 have hKl:=hjd (show(a4u i tag SG body).length=66 + body.length by unfold a4u;simp [hg];omega);have hkey:=Go.WideMaps.keyOf_string_mk Tryz.underlying9 (s:=mkS (a4u i tag SG body)) (by show(a4u i tag SG body).length≤maxLen;rw [hKl.out];simp only [maxLen];omega);have hkd:(mkS (a4u i tag SG body)).data.toList=a4u i tag SG body:=by simp [mkS]
 rw [hkd]at hkey;replace hkey:=hjd hkey;have hjo:=hjd (show∀v1 v2 v3:Value,a0z [(v1,[UInt8.ofNat i,tag]),(v2,SG),(v3,body)]=a4u i tag SG body from fun _ _ _=>by simp [a0z,bytesOf,a4u]);generalize hK:a4u i tag SG body=K at *;replace hK:=hjd hK;replace hat:=hjd hat;have hm:=hjd hm;have hg:=hjd hg;have hi:=hjd hi;have hml:=hjd hml;have KK:=hjd (Kept.refl [] w);clear h hkd;replace co:=hjd co;replace hok:=hjd hok;go_enter Tryz.func145,Tryz.ntmps145;go_wp2_with (first
  | ((with_reducible refine a0f 9 ?_);(refine a0q (o:=⟨some 9,_,_,_,_,_⟩) (v:=ab SG) rfl (.tmp 4) rfl rfl ?_);intro g9 w9 m9;have B9:=hjd (show Blk w9 g9 32 (bv SG).toArray from m9.blk);replace KK:=hjd (KK.out.a0g m9.kept);replace H:=hjd (H.out.kept m9.kept);clear m9)
  | (go_at_call 148;(with_reducible refine(a6h H.out).mono ?_);rintro e v ⟨rfl,rfl⟩)
  | ((with_reducible refine a0f 25 ?_);(refine a3c (o:=⟨some 25,_,_,_,_,_⟩) (v0:=.int .u8 ((UInt8.ofNat i).toNat:Int)) (v1:=.int .u8 (tag.toNat:Int)) rfl a1x rfl rfl rfl rfl rfl ?_);intro g25 w25 m25;have R25:=hjd (show a1o [UInt8.ofNat i,tag] (.slice (some ⟨g25,0,none⟩) 2 2) w25 from Blk.rd (cs:=bv [UInt8.ofNat i,tag]) m25.blk rfl (Nat.le_refl _));replace KK:=hjd (KK.out.a0g m25.kept);replace H:=hjd (H.out.kept m25.kept);replace B9:=hjd (B9.out.kept m25.kept (by simp));clear m25)
  | ((with_reducible refine a0f 28 ?_);(refine a5m (o:=⟨some 28,_,_,_,_,_⟩) (v0:=.slice (some ⟨g25,0,none⟩) 2 2) (v1:=.slice (some ⟨g9,0,none⟩) 64 64) (v2:=.slice BA body.length bc) rfl a4j rfl rfl rfl rfl rfl rfl rfl ?_);intro gp wp mp;have PP:=hjd (b8b mp.blk (R25.out.a0k mp.kept) (show a1o SG _ wp from by unfold a1o;rw [hg.out];exact Blk.rd (B9.out.kept mp.kept (by simp)) (by simp [hg.out]) (Nat.le_refl _)) ((hm.out.a0k KK.out).a0k mp.kept));replace KK:=hjd (KK.out.a0g mp.kept);replace H:=hjd (H.out.kept mp.kept);replace B9:=hjd (B9.out.kept mp.kept (by simp));clear mp R25)
  | (go_at_call 64;(with_reducible refine(a5u _ _ _ PP.out (by simp) (by rw [hjo.out,hKl.out];have:=hml.out;omega)).mono ?_);rintro e v29 ⟨x29,rfl,hn⟩;rw [hjo.out]at hn;have R29:=hjd hn.rd;replace KK:=hjd (KK.out.a0g hn.kept);replace H:=hjd (H.out.kept hn.kept);replace B9:=hjd (B9.out.kept hn.kept (by simp));have q1:v29.cell? ⟨r,1,none⟩=some (.map (some b)):=by rw [H.out.blk.cell];rfl
     have q0:v29.cell? ⟨r,0,none⟩=some (.slice KA keys.length kc):=by rw [H.out.blk.cell];rfl
     clear hn PP)
  | ((with_reducible refine a0f 30 ?_);refine b3f (o:=⟨some 30,_,_,_,_,_⟩) Tryz.underlying23 Tryz.underlying5 Tryz.underlying9 rfl (.tmp 29) rfl rfl R29.out ?_)
  | (at_lookup;refine wpList_lookup_own_int _ rfl _ _ _ rfl 9 3 .i64 sk Tryz.underlying218 Tryz.underlying3 (d0g _) b n D rfl (mp.kept KK.out (by simp)) (.string (mkS K)) (.string K) rfl hkey.out ?_;intro c' hc' _;obtain rfl:c'=0:=by
      have:=hat.out;unfold atM at this;rw [hc']at this;injection this with this
      injection this
     clear hc'))
 obtain⟨pre,post,hpp,hpl⟩:=a8d hi.out H.out.len;have hKey:=hjd (H.out.len (keys.getD i []) (by rw [show keys.getD i []=keys[i]'(hi.out)from by simp [List.getD_eq_getElem?_getD,hi.out]];exact List.getElem_mem _));obtain⟨kb,ko,c2,he2,_,_⟩:=H.out.rows.at_ (by have:=hi.out;omega)
 cases he2
 have hrng:=hjd (Rd.elem (i:=i) H.out.rows hpp hpl (by have:=hi.out;omega));generalize hky:keys.getD i []=key at *;replace hky:=hjd hky;have hmv:=hjd (show a1o body (.slice BA body.length bc) v29.drew from hm.out.a0k KK.out.drew);refine Txt.a2g (by kernel_rfl) (by kernel_rfl) ?_;go_wp2_with (first
  | ((with_reducible refine a0f 46 ?_);refine a4t (o:=⟨some 46,_,_,_,_,_⟩) b0w rfl (.tmp 44) (.tmp 45) rfl rfl rfl hi.out ?_)
  | ((with_reducible refine a0f 47 ?_);refine a1i (o:=⟨some 47,_,_,_,_,_⟩) (cs:=bv key) a2u.row rfl (.tmp 46) rfl rfl hrng.out (by simpa using hKey.out) ?_)
  | ((with_reducible refine a0f 50 ?_);refine a0d (cs:=(bv SG).toArray) (o:=⟨some 50,_,_,_,_,_⟩) Q.b7e rfl (.tmp 9) rfl rfl B9.out.drew (by simpa using hg.out) ?_)
  | (go_at_call 126;(with_reducible refine(co.out _ hmv.out).mono ?_);rintro e v51 ⟨rfl,k51⟩;have K51:=hjd (KK.out.a0g k51.a1r);have H51:=hjd (H.out.kept k51.a1r);have q1:v51.cell? ⟨r,1,none⟩=some (.map (some b)):=by rw [H51.out.blk.cell];rfl
     clear k51))
 refine⟨rfl,by kernel_rfl,?_⟩;go_wp2_with (first
  | (at_len;refine wpList_len_own _ rfl _ 218 rfl 9 3 Tryz.underlying218 _ b n D rfl (mp.kept K51.out (by simp)) ?_)
  | (at_mapUpdate;refine wpList_mapUpdate_own _ rfl _ _ _ 218 rfl 9 3 sk Tryz.underlying218 _ b (Maps.size D) D rfl (oM.tight (mp.kept K51.out (by simp))) (by simp only [maxLen];omega) (.string (mkS K)) (.int .i64 1) (.string K) rfl rfl hkey.out (.lit (.int .i64 1)) [] (plainElem_int Tryz.underlying3 (by decide)) ?_;intro w9 own9 grow9))
 go_ret;exact⟨rfl,D,H51.out,Kept.of0 K51.out⟩
set_option maxHeartbeats 3200000 in
theorem b5f{w:World}{r b:Nat}{kv:Value}{keys:List (List UInt8)}{D:DU}{i:Nat}{tag:UInt8}{SG body:List UInt8}(h:Rg w r kv keys b D)(hi:i < keys.length)(hg:SG.length=64)(mv:Value)(hm:a1o body mv w)(hml:body.length≤140737488351900)(hat:atM D (a4u i tag SG body)= .lit (.int .i64 0))(hok:okV (keys.getD i []) SG (a5o tag body)=false)(hroom:Maps.size D < 16384)
 (co:∀u,a1o body mv u→Calls Tryz.prog 126 #[ab (keys.getD i []),.int .u8 (tag.toNat:Int),mv,ab SG] u fun e w'=>e= .returned (.bool false)∧Kept [] u w') :
 Calls Tryz.prog 145 #[.pointer (some ⟨r,0,none⟩),.int .i64 (i:Int),.int .u8 (tag.toNat:Int),mv,ab SG] w fun e w'=>e= .returned (.bool false)∧∃D',Rg w' r kv keys b D'∧Kept [b] w w':=by
 obtain⟨KA,kc,e0,_⟩:=h.rows;subst e0;obtain⟨BA,bc,e1,_⟩:=id hm;subst e1;have hlt7:=h.few;obtain⟨n,mp⟩:=h.map;have H:=hjd h;have hx0:¬((i:Int) < 0):=by omega
 have hx1:¬((keys.length:Int)≤(i:Int)):=by omega
 have hi8:IntKind.u8.wrap (i:Int)=((UInt8.ofNat i).toNat:Int):=by
  rw [UInt8.toNat_ofNat_of_lt' (by show i < 256;omega),IntKind.wrap_u8];omega
 have hKl:=hjd (show(a4u i tag SG body).length=66 + body.length by unfold a4u;simp [hg];omega);have hkey:=Go.WideMaps.keyOf_string_mk Tryz.underlying9 (s:=mkS (a4u i tag SG body)) (by show(a4u i tag SG body).length≤maxLen;rw [hKl.out];simp only [maxLen];omega);have hkd:(mkS (a4u i tag SG body)).data.toList=a4u i tag SG body:=by simp [mkS]
 rw [hkd]at hkey;replace hkey:=hjd hkey;have hjo:=hjd (show∀v1 v2 v3:Value,a0z [(v1,[UInt8.ofNat i,tag]),(v2,SG),(v3,body)]=a4u i tag SG body from fun _ _ _=>by simp [a0z,bytesOf,a4u]);generalize hK:a4u i tag SG body=K at *;replace hK:=hjd hK;replace hat:=hjd hat;have hm:=hjd hm;have hg:=hjd hg;have hi:=hjd hi;have hml:=hjd hml;have KK:=hjd (Kept.refl [] w);clear h hkd;replace co:=hjd co;replace hok:=hjd hok;go_enter Tryz.func145,Tryz.ntmps145;go_wp2_with (first
  | ((with_reducible refine a0f 9 ?_);(refine a0q (o:=⟨some 9,_,_,_,_,_⟩) (v:=ab SG) rfl (.tmp 4) rfl rfl ?_);intro g9 w9 m9;have B9:=hjd (show Blk w9 g9 32 (bv SG).toArray from m9.blk);replace KK:=hjd (KK.out.a0g m9.kept);replace H:=hjd (H.out.kept m9.kept);clear m9)
  | (go_at_call 148;(with_reducible refine(a6h H.out).mono ?_);rintro e v ⟨rfl,rfl⟩)
  | ((with_reducible refine a0f 25 ?_);(refine a3c (o:=⟨some 25,_,_,_,_,_⟩) (v0:=.int .u8 ((UInt8.ofNat i).toNat:Int)) (v1:=.int .u8 (tag.toNat:Int)) rfl a1x rfl rfl rfl rfl rfl ?_);intro g25 w25 m25;have R25:=hjd (show a1o [UInt8.ofNat i,tag] (.slice (some ⟨g25,0,none⟩) 2 2) w25 from Blk.rd (cs:=bv [UInt8.ofNat i,tag]) m25.blk rfl (Nat.le_refl _));replace KK:=hjd (KK.out.a0g m25.kept);replace H:=hjd (H.out.kept m25.kept);replace B9:=hjd (B9.out.kept m25.kept (by simp));clear m25)
  | ((with_reducible refine a0f 28 ?_);(refine a5m (o:=⟨some 28,_,_,_,_,_⟩) (v0:=.slice (some ⟨g25,0,none⟩) 2 2) (v1:=.slice (some ⟨g9,0,none⟩) 64 64) (v2:=.slice BA body.length bc) rfl a4j rfl rfl rfl rfl rfl rfl rfl ?_);intro gp wp mp;have PP:=hjd (b8b mp.blk (R25.out.a0k mp.kept) (show a1o SG _ wp from by unfold a1o;rw [hg.out];exact Blk.rd (B9.out.kept mp.kept (by simp)) (by simp [hg.out]) (Nat.le_refl _)) ((hm.out.a0k KK.out).a0k mp.kept));replace KK:=hjd (KK.out.a0g mp.kept);replace H:=hjd (H.out.kept mp.kept);replace B9:=hjd (B9.out.kept mp.kept (by simp));clear mp R25)
  | (go_at_call 64;(with_reducible refine(a5u _ _ _ PP.out (by simp) (by rw [hjo.out,hKl.out];have:=hml.out;omega)).mono ?_);rintro e v29 ⟨x29,rfl,hn⟩;rw [hjo.out]at hn;have R29:=hjd hn.rd;replace KK:=hjd (KK.out.a0g hn.kept);replace H:=hjd (H.out.kept hn.kept);replace B9:=hjd (B9.out.kept hn.kept (by simp));have q1:v29.cell? ⟨r,1,none⟩=some (.map (some b)):=by rw [H.out.blk.cell];rfl
     have q0:v29.cell? ⟨r,0,none⟩=some (.slice KA keys.length kc):=by rw [H.out.blk.cell];rfl
     clear hn PP)
  | ((with_reducible refine a0f 30 ?_);refine b3f (o:=⟨some 30,_,_,_,_,_⟩) Tryz.underlying23 Tryz.underlying5 Tryz.underlying9 rfl (.tmp 29) rfl rfl R29.out ?_)
  | (at_lookup;refine wpList_lookup_own_int _ rfl _ _ _ rfl 9 3 .i64 sk Tryz.underlying218 Tryz.underlying3 (d0g _) b n D rfl (mp.kept KK.out (by simp)) (.string (mkS K)) (.string K) rfl hkey.out ?_;intro c' hc' _;obtain rfl:c'=0:=by
      have:=hat.out;unfold atM at this;rw [hc']at this;injection this with this
      injection this
     clear hc'))
 obtain⟨pre,post,hpp,hpl⟩:=a8d hi.out H.out.len;have hKey:=hjd (H.out.len (keys.getD i []) (by rw [show keys.getD i []=keys[i]'(hi.out)from by simp [List.getD_eq_getElem?_getD,hi.out]];exact List.getElem_mem _));obtain⟨kb,ko,c2,he2,_,_⟩:=H.out.rows.at_ (by have:=hi.out;omega)
 cases he2
 have hrng:=hjd (Rd.elem (i:=i) H.out.rows hpp hpl (by have:=hi.out;omega));generalize hky:keys.getD i []=key at *;replace hky:=hjd hky;have hmv:=hjd (show a1o body (.slice BA body.length bc) v29.drew from hm.out.a0k KK.out.drew);refine Txt.a2g (by kernel_rfl) (by kernel_rfl) ?_;go_wp2_with (first
  | ((with_reducible refine a0f 46 ?_);refine a4t (o:=⟨some 46,_,_,_,_,_⟩) b0w rfl (.tmp 44) (.tmp 45) rfl rfl rfl hi.out ?_)
  | ((with_reducible refine a0f 47 ?_);refine a1i (o:=⟨some 47,_,_,_,_,_⟩) (cs:=bv key) a2u.row rfl (.tmp 46) rfl rfl hrng.out (by simpa using hKey.out) ?_)
  | ((with_reducible refine a0f 50 ?_);refine a0d (cs:=(bv SG).toArray) (o:=⟨some 50,_,_,_,_,_⟩) Q.b7e rfl (.tmp 9) rfl rfl B9.out.drew (by simpa using hg.out) ?_)
  | (go_at_call 126;(with_reducible refine(co.out _ hmv.out).mono ?_);rintro e v51 ⟨rfl,k51⟩;have K51:=hjd (KK.out.a0g k51.a1r);have H51:=hjd (H.out.kept k51.a1r);have q1:v51.cell? ⟨r,1,none⟩=some (.map (some b)):=by rw [H51.out.blk.cell];rfl
     clear k51))
 refine⟨rfl,by kernel_rfl,?_⟩;go_wp2_with (first
  | (at_len;refine wpList_len_own _ rfl _ 218 rfl 9 3 Tryz.underlying218 _ b n D rfl (mp.kept K51.out (by simp)) ?_)
  | (at_mapUpdate;refine wpList_mapUpdate_own _ rfl _ _ _ 218 rfl 9 3 sk Tryz.underlying218 _ b (Maps.size D) D rfl (oM.tight (mp.kept K51.out (by simp))) (by simp only [maxLen];omega) (.string (mkS K)) (.int .i64 2) (.string K) rfl rfl hkey.out (.lit (.int .i64 2)) [] (plainElem_int Tryz.underlying3 (by decide)) ?_;intro w9 own9 grow9))
 go_ret;have kb:=Kept.grown grow9;have hs:=c5i.put H51.out.seen H51.out.isMap H51.out.few hi.out hg.out (tag:=tag) (body:=body) (c:=2) (by decide) (by rw [hky.out];simp [hok.out]);have hK2:=hK.out;unfold a4u at hK2;rw [hK2]at hs;exact⟨rfl,_,H51.out.e3t kb own9 hs (c1e H51.out.isMap),(Kept.of0 K51.out).trans' kb⟩
set_option maxHeartbeats 3200000 in
theorem b0o{w:World}{r b:Nat}{kv:Value}{keys:List (List UInt8)}{D:DU}{i:Nat}{tag:UInt8}{SG body:List UInt8}(h:Rg w r kv keys b D)(hi:i < keys.length)(hg:SG.length=64)(mv:Value)(hm:a1o body mv w)(hml:body.length≤140737488351900)(hat:atM D (a4u i tag SG body)= .lit (.int .i64 0))(hok:okV (keys.getD i []) SG (a5o tag body)=false)(hroom:¬Maps.size D < 16384)
 (co:∀u,a1o body mv u→Calls Tryz.prog 126 #[ab (keys.getD i []),.int .u8 (tag.toNat:Int),mv,ab SG] u fun e w'=>e= .returned (.bool false)∧Kept [] u w') :
 Calls Tryz.prog 145 #[.pointer (some ⟨r,0,none⟩),.int .i64 (i:Int),.int .u8 (tag.toNat:Int),mv,ab SG] w fun e w'=>e= .returned (.bool false)∧∃D',Rg w' r kv keys b D'∧Kept [b] w w':=by
 obtain⟨KA,kc,e0,_⟩:=h.rows;subst e0;obtain⟨BA,bc,e1,_⟩:=id hm;subst e1;have hlt7:=h.few;obtain⟨n,mp⟩:=h.map;have H:=hjd h;have hx0:¬((i:Int) < 0):=by omega
 have hx1:¬((keys.length:Int)≤(i:Int)):=by omega
 have hi8:IntKind.u8.wrap (i:Int)=((UInt8.ofNat i).toNat:Int):=by
  rw [UInt8.toNat_ofNat_of_lt' (by show i < 256;omega),IntKind.wrap_u8];omega
 have hKl:=hjd (show(a4u i tag SG body).length=66 + body.length by unfold a4u;simp [hg];omega);have hkey:=Go.WideMaps.keyOf_string_mk Tryz.underlying9 (s:=mkS (a4u i tag SG body)) (by show(a4u i tag SG body).length≤maxLen;rw [hKl.out];simp only [maxLen];omega);have hkd:(mkS (a4u i tag SG body)).data.toList=a4u i tag SG body:=by simp [mkS]
 rw [hkd]at hkey;replace hkey:=hjd hkey;have hjo:=hjd (show∀v1 v2 v3:Value,a0z [(v1,[UInt8.ofNat i,tag]),(v2,SG),(v3,body)]=a4u i tag SG body from fun _ _ _=>by simp [a0z,bytesOf,a4u]);generalize hK:a4u i tag SG body=K at *;replace hK:=hjd hK;replace hat:=hjd hat;have hm:=hjd hm;have hg:=hjd hg;have hi:=hjd hi;have hml:=hjd hml;have KK:=hjd (Kept.refl [] w);clear h hkd;replace co:=hjd co;replace hok:=hjd hok;go_enter Tryz.func145,Tryz.ntmps145;go_wp2_with (first
  | ((with_reducible refine a0f 9 ?_);(refine a0q (o:=⟨some 9,_,_,_,_,_⟩) (v:=ab SG) rfl (.tmp 4) rfl rfl ?_);intro g9 w9 m9;have B9:=hjd (show Blk w9 g9 32 (bv SG).toArray from m9.blk);replace KK:=hjd (KK.out.a0g m9.kept);replace H:=hjd (H.out.kept m9.kept);clear m9)
  | (go_at_call 148;(with_reducible refine(a6h H.out).mono ?_);rintro e v ⟨rfl,rfl⟩)
  | ((with_reducible refine a0f 25 ?_);(refine a3c (o:=⟨some 25,_,_,_,_,_⟩) (v0:=.int .u8 ((UInt8.ofNat i).toNat:Int)) (v1:=.int .u8 (tag.toNat:Int)) rfl a1x rfl rfl rfl rfl rfl ?_);intro g25 w25 m25;have R25:=hjd (show a1o [UInt8.ofNat i,tag] (.slice (some ⟨g25,0,none⟩) 2 2) w25 from Blk.rd (cs:=bv [UInt8.ofNat i,tag]) m25.blk rfl (Nat.le_refl _));replace KK:=hjd (KK.out.a0g m25.kept);replace H:=hjd (H.out.kept m25.kept);replace B9:=hjd (B9.out.kept m25.kept (by simp));clear m25)
  | ((with_reducible refine a0f 28 ?_);(refine a5m (o:=⟨some 28,_,_,_,_,_⟩) (v0:=.slice (some ⟨g25,0,none⟩) 2 2) (v1:=.slice (some ⟨g9,0,none⟩) 64 64) (v2:=.slice BA body.length bc) rfl a4j rfl rfl rfl rfl rfl rfl rfl ?_);intro gp wp mp;have PP:=hjd (b8b mp.blk (R25.out.a0k mp.kept) (show a1o SG _ wp from by unfold a1o;rw [hg.out];exact Blk.rd (B9.out.kept mp.kept (by simp)) (by simp [hg.out]) (Nat.le_refl _)) ((hm.out.a0k KK.out).a0k mp.kept));replace KK:=hjd (KK.out.a0g mp.kept);replace H:=hjd (H.out.kept mp.kept);replace B9:=hjd (B9.out.kept mp.kept (by simp));clear mp R25)
  | (go_at_call 64;(with_reducible refine(a5u _ _ _ PP.out (by simp) (by rw [hjo.out,hKl.out];have:=hml.out;omega)).mono ?_);rintro e v29 ⟨x29,rfl,hn⟩;rw [hjo.out]at hn;have R29:=hjd hn.rd;replace KK:=hjd (KK.out.a0g hn.kept);replace H:=hjd (H.out.kept hn.kept);replace B9:=hjd (B9.out.kept hn.kept (by simp));have q1:v29.cell? ⟨r,1,none⟩=some (.map (some b)):=by rw [H.out.blk.cell];rfl
     have q0:v29.cell? ⟨r,0,none⟩=some (.slice KA keys.length kc):=by rw [H.out.blk.cell];rfl
     clear hn PP)
  | ((with_reducible refine a0f 30 ?_);refine b3f (o:=⟨some 30,_,_,_,_,_⟩) Tryz.underlying23 Tryz.underlying5 Tryz.underlying9 rfl (.tmp 29) rfl rfl R29.out ?_)
  | (at_lookup;refine wpList_lookup_own_int _ rfl _ _ _ rfl 9 3 .i64 sk Tryz.underlying218 Tryz.underlying3 (d0g _) b n D rfl (mp.kept KK.out (by simp)) (.string (mkS K)) (.string K) rfl hkey.out ?_;intro c' hc' _;obtain rfl:c'=0:=by
      have:=hat.out;unfold atM at this;rw [hc']at this;injection this with this
      injection this
     clear hc'))
 obtain⟨pre,post,hpp,hpl⟩:=a8d hi.out H.out.len;have hKey:=hjd (H.out.len (keys.getD i []) (by rw [show keys.getD i []=keys[i]'(hi.out)from by simp [List.getD_eq_getElem?_getD,hi.out]];exact List.getElem_mem _));obtain⟨kb,ko,c2,he2,_,_⟩:=H.out.rows.at_ (by have:=hi.out;omega)
 cases he2
 have hrng:=hjd (Rd.elem (i:=i) H.out.rows hpp hpl (by have:=hi.out;omega));generalize hky:keys.getD i []=key at *;replace hky:=hjd hky;have hmv:=hjd (show a1o body (.slice BA body.length bc) v29.drew from hm.out.a0k KK.out.drew);refine Txt.a2g (by kernel_rfl) (by kernel_rfl) ?_;go_wp2_with (first
  | ((with_reducible refine a0f 46 ?_);refine a4t (o:=⟨some 46,_,_,_,_,_⟩) b0w rfl (.tmp 44) (.tmp 45) rfl rfl rfl hi.out ?_)
  | ((with_reducible refine a0f 47 ?_);refine a1i (o:=⟨some 47,_,_,_,_,_⟩) (cs:=bv key) a2u.row rfl (.tmp 46) rfl rfl hrng.out (by simpa using hKey.out) ?_)
  | ((with_reducible refine a0f 50 ?_);refine a0d (cs:=(bv SG).toArray) (o:=⟨some 50,_,_,_,_,_⟩) Q.b7e rfl (.tmp 9) rfl rfl B9.out.drew (by simpa using hg.out) ?_)
  | (go_at_call 126;(with_reducible refine(co.out _ hmv.out).mono ?_);rintro e v51 ⟨rfl,k51⟩;have K51:=hjd (KK.out.a0g k51.a1r);have H51:=hjd (H.out.kept k51.a1r);have q1:v51.cell? ⟨r,1,none⟩=some (.map (some b)):=by rw [H51.out.blk.cell];rfl
     clear k51))
 refine⟨rfl,by kernel_rfl,?_⟩;go_wp2_with (first
  | (at_len;refine wpList_len_own _ rfl _ 218 rfl 9 3 Tryz.underlying218 _ b n D rfl (mp.kept K51.out (by simp)) ?_)
  | (at_mapUpdate;refine wpList_mapUpdate_own _ rfl _ _ _ 218 rfl 9 3 sk Tryz.underlying218 _ b (Maps.size D) D rfl (oM.tight (mp.kept K51.out (by simp))) (by simp only [maxLen];omega) (.string (mkS K)) (.int .i64 2) (.string K) rfl rfl hkey.out (.lit (.int .i64 2)) [] (plainElem_int Tryz.underlying3 (by decide)) ?_;intro w9 own9 grow9))
 go_ret;exact⟨rfl,D,H51.out,Kept.of0 K51.out⟩
theorem d7z{w:World}{r b:Nat}{kv:Value}{keys:List (List UInt8)}{D:DU}{i:Nat}(tag:UInt8){SG:List UInt8}(body:List UInt8)(h:Rg w r kv keys b D)(hi:i < keys.length)(hg:SG.length=64)(mv:Value)(hm:a1o body mv w)(hml:body.length≤140737488351900) :
 Calls Tryz.prog 145 #[.pointer (some ⟨r,0,none⟩),.int .i64 (i:Int),.int .u8 (tag.toNat:Int),mv,ab SG] w fun e w'=>e= .returned (.bool (okV (keys.getD i []) SG (a5o tag body)))∧∃D',Rg w' r kv keys b D'∧Kept [b] w w':=by
 have hk32:=h.len (keys.getD i []) (by rw [show keys.getD i []=keys[i]from by simp [List.getD_eq_getElem?_getD,hi]];exact List.getElem_mem _);have co:=fun u (hu:a1o body mv u)=>d6q (key:=keys.getD i []) (SG:=SG) tag hk32 hg mv body u hu hml
 rcases h.seen (a4u i tag SG body)with hat | ⟨c,hc,hat,hp⟩
 ·cases hok:okV (keys.getD i []) SG (a5o tag body)with
  | true=>
    rw [hok]at co;by_cases hr:Maps.size D < 16384
    ·exact b7f h hi hg mv hm hml hat hok hr co
    ·exact b0u h hi hg mv hm hml hat hok hr co
  | false=>
    rw [hok]at co;by_cases hr:Maps.size D < 16384
    ·exact b5f h hi hg mv hm hml hat hok hr co
    ·exact b0o h hi hg mv hm hml hat hok hr co
 ·have hq:=hp i tag SG body rfl hi hg;rcases hc with rfl | rfl
  ·rw [hq.1 rfl];refine(d2o h hi hg mv hm hml hat).mono ?_;rintro e w' ⟨rfl,k⟩;exact⟨rfl,D,h.kept k,Kept.of0 k⟩
  ·have:okV (keys.getD i []) SG (a5o tag body)=false:=by
    cases ho:okV (keys.getD i []) SG (a5o tag body)with
    | false=>rfl
    | true=>exact absurd (hq.2 ho) (by decide)
   rw [this];refine(d3w h hi hg mv hm hml hat).mono ?_;rintro e w' ⟨rfl,k⟩;exact⟨rfl,D,h.kept k,Kept.of0 k⟩
end Go.Proofs.YtdbngnlpafcogaaGreat
