/-
  An identity's keys: a history's value.
  The document's digests: words turned (32 bits).
  The document's digests: its tables, its words (32 bits).
  The document's digests: words for the walk (32 bits).
-/
import Derived.Test.YtdbngnlpafcogaaZhJ03
import Derived.Test.YtdbngnlpafcogaaZhSh5
import Derived.Test.YtdbngnlpafcogaaZhFam
import Derived.Test.YtdbngnlpafcogaaZhJ02
set_option maxRecDepth 100000
namespace Go.Proofs.Ytdbngnlpafcogaa
open Go.RowKit Go.Mem Go.Txt
noncomputable def b2h (keys:List (List UInt8)):List UInt8:=keys.foldl (fun d k=>sha (3 :: (d ++ k))) (a0j 32)
noncomputable def b4q (keys:List (List UInt8)):List UInt8:=sha (2 :: (be8 keys.length ++ b2h keys))
theorem b8o{keys:List (List UInt8)}{j:Nat}(h:j < keys.length):b2h (keys.take (j + 1))=sha (3 :: (b2h (keys.take j) ++ keys.getD j [])):=by
 unfold b2h
 rw [List.take_add_one,List.foldl_append,getD_eq h,List.getElem?_eq_getElem h]
 rfl
theorem b3c(keys:List (List UInt8)):(b2h keys).length=32:=by
 rcases List.eq_nil_or_concat keys with rfl | ⟨l,x,rfl⟩
 ·rfl
 ·unfold b2h
  rw [List.concat_eq_append,List.foldl_append]
  exact a3e _
theorem c8l{w:World}{g:Nat}{t:TypeId}{l:List UInt8}{cs:Array Value}{n:Nat}(hb:Blk w g t cs)(hc:cs=(bv l).toArray)(hn:l.length=n):a4a l (.slice (some ⟨g,0,none⟩) n n) w:=by
 subst hc
 exact a4u hb hn
set_option maxHeartbeats 3200000 in
theorem a5i(v:Value)(keys:List (List UInt8))(w:World)(hr:Rd w 32 v keys.length (keys.flatMap bv))(hl:∀x∈keys,x.length=32)(hx:keys.length≤1000000) :
 Calls Try.prog 27 #[v] w fun e w'=>e= .returned (ab (b4q keys))∧Kept [] w w':=by
 obtain⟨KA,kap,rfl,_⟩:=id hr
 have H:=hjd hr
 have hl:=hjd hl
 have hx2:=hjd hx
 have l0:=b6e
 have vl:=hjd (fun j=>b3c (keys.take j))
 have vs:=hjd (fun j (h:j < keys.length)=>b8o h)
 obtain⟨Z,hZ⟩:∃Z:List UInt8,Z=a0j 32:=⟨_,rfl⟩
 rw [←hZ]at l0
 have hzl:=hjd (show Z.length=32 from by rw [hZ];rfl)
 have hz0:=hjd (show b2h (keys.take 0)=Z from by rw [hZ];rfl)
 have hzb:=hjd (show(ab (a0j 32)).cells=(bv Z).toArray from by rw [hZ];rfl)
 clear hZ
 clear hr
 go_enter Try.func27,Try.ntmps27
 go_wp2_with (first
  | ((with_reducible refine a0l 2 ?_);(refine a0g (o:=⟨some 2,_,_,_,_,_⟩) rfl rfl a5m ?_);intro g2 w2 m2;have B2:=hjd (show Blk w2 g2 26 (bv Z).toArray from by have:=m2.blk;rwa [hzb.out]at this);have KK:=hjd m2.kept;have L2:=hjd m2.le;clear m2)
  | ((with_reducible refine a0l 3 ?_);(refine a0g (o:=⟨some 3,_,_,_,_,_⟩) rfl rfl a5m ?_);intro g3 w3 m3
     have B3:=hjd (show Blk w3 g3 26 (bv (b2h (keys.take 0))).toArray from by have:=m3.blk;rw [hzb.out]at this;rw [hz0.out];exact this)
     have N3:=hjd (m3.ne B2.out.lt)
     replace B2:=hjd (B2.out.kept m3.kept (by simp));have L3:=hjd (Nat.le_trans KK.out.size m3.le);replace KK:=hjd (KK.out.a0f m3.kept);clear m3))
 go_loopg [8] keys.length (fun f g wk=>∃j:Nat,j≤keys.length∧f + j=keys.length∧g= .int .i64 j∧Hid (Blk wk g3 26 (bv (b2h (keys.take j))).toArray)∧Hid (Blk wk g2 26 (bv Z).toArray)∧Kept [] w wk)
 case atStart=>exact⟨0,Nat.zero_le _,rfl,rfl,B3,B2,KK.out⟩
 case round=>
  obtain⟨j,hj,hfj,rfl,hb3,hb2,hwk⟩:=hrel
  clear B3 B2 KK
  have KK:=hjd hwk
  replace H:=hjd (H.out.a0q hwk)
  clear hwk
  by_cases hlt:j < keys.length
  ·obtain⟨kb,ko,kd,ek,_⟩:=H.out.at_ (by omega)
   obtain⟨rfl,rfl⟩:KA=some ⟨kb,ko,none⟩∧kap=kd:=by simpa using ek
   clear ek
   obtain⟨pre,post,hpp,hpl⟩:=b2n hlt hl.out
   have hkj:=hjd (hl.out (keys.getD j []) (by rw [getD_eq hlt];exact List.getElem_mem _))
   have hrk:=hjd (Rd.elem (i:=j) H.out hpp hpl (by omega))
   have hst:=hjd (vs.out j hlt)
   have hdl:=hjd (vl.out j)
   generalize keys.getD j []=key at *
   generalize hd:b2h (keys.take j)=d at *
   clear hpp hpl hd
   go_wp2_with (first
    | ((with_reducible refine a0l 10 ?_);refine a6v (o:=⟨some 10,_,_,_,_,_⟩) a7l rfl (.tmp 6) (.tmp 8) rfl rfl rfl hlt ?_)
    | ((with_reducible refine a0l 11 ?_);refine a0r (o:=⟨some 11,_,_,_,_,_⟩) (cs:=bv key) a1o.row rfl (.tmp 10) rfl rfl hrk.out (by simpa using hkj.out) ?_)
    | ((with_reducible refine a0l 5 ?_);(refine a0g (o:=⟨some 5,_,_,_,_,_⟩) rfl rfl a5m ?_);intro g5 w5 m5;have M5:=hjd m5;have T5:=hjd (show Blk w5 g5 26 (bv Z).toArray from by have:=m5.blk;rwa [hzb.out]at this);clear m5)
    | (refine a0b (cs:=(bv key).toArray) (o:=⟨none,Op.store 26 (.tmp 5) (.tmp 11),_,_,_,_⟩) a1o.row rfl (.tmp 5) (.tmp 11) rfl rfl rfl T5.out (by simpa using hzl.out) (by simpa using hkj.out) (a2r _) ?_
       intro wb5 b5 k5
       have kk:=M5.out.kept.a0p k5 M5.out.le
       have B5:=hjd b5
       replace hb3:=hjd (hb3.out.kept kk (by simp))
       replace hb2:=hjd (hb2.out.kept kk (by simp))
       replace KK:=hjd (KK.out.a0f kk)
       clear b5 k5 kk M5 T5 hrk))
   have kd:=(Kept.refl [] wb5).drew
   replace hb3:=hjd (hb3.out.kept kd (by simp))
   replace hb2:=hjd (hb2.out.kept kd (by simp))
   replace B5:=hjd (B5.out.kept kd (by simp))
   replace KK:=hjd (KK.out.a0f kd)
   clear kd
   refine Txt.a2t (by kernel_rfl) (by kernel_rfl) ?_
   go_wp2_with (first
    | ((with_reducible refine a0l 12 ?_);(refine a1m (o:=⟨some 12,_,_,_,_,_⟩) (v0:=.int .u8 3) (cells:=#[.int .u8 3]) rfl a1n rfl rfl (by decide) rfl rfl ?_);intro gb wb mb
       have R1:=hjd (c8l (l:=[3]) mb.blk rfl rfl)
       replace hb3:=hjd (hb3.out.kept mb.kept (by simp))
       replace hb2:=hjd (hb2.out.kept mb.kept (by simp))
       replace B5:=hjd (B5.out.kept mb.kept (by simp))
       replace KK:=hjd (KK.out.a0f mb.kept)
       clear mb)
    | ((with_reducible refine a0l 15 ?_);(refine a9b (o:=⟨some 15,_,_,_,_,_⟩) (v0:=.slice (some ⟨gb,0,none⟩) 1 1) (v1:=.slice (some ⟨g3,0,none⟩) 32 32) (v2:=.slice (some ⟨g5,0,none⟩) 32 32) rfl a5b rfl rfl rfl rfl rfl rfl rfl ?_);intro gp wp mp
       have PP:=hjd (c8f mp.blk (R1.out.a0q mp.kept) (a4u (hb3.out.kept mp.kept (by simp)) hdl.out) (a4u (B5.out.kept mp.kept (by simp)) hkj.out))
       replace hb3:=hjd (hb3.out.kept mp.kept (by simp))
       replace hb2:=hjd (hb2.out.kept mp.kept (by simp))
       replace KK:=hjd (KK.out.a0f mp.kept)
       clear mp B5 R1)
    | (go_at_call 55;(with_reducible refine(b4d _ _ _ PP.out (by simp) (by simp [a0w,bytesOf,hdl.out,hkj.out])).mono ?_);rintro e ws ⟨rfl,ks⟩
       replace hb3:=hjd (hb3.out.kept ks (by simp))
       replace hb2:=hjd (hb2.out.kept ks (by simp))
       replace KK:=hjd (KK.out.a0f ks)
       clear ks PP)
    | (refine a0b (cs:=(bv (sha (a0w _))).toArray) (o:=⟨none,Op.store 26 (.tmp 3) (.tmp 16),_,_,_,_⟩) a1o.row rfl (.tmp 3) (.tmp 16) rfl rfl rfl hb3.out (by simpa using hdl.out) (by simp [a3e]) (a2r _) ?_
       intro wt bt kt
       replace hb3:=hjd (show Blk wt g3 26 (bv (b2h (keys.take (j + 1)))).toArray from by rw [hst.out];simpa [a0w,bytesOf]using bt)
       replace hb2:=hjd (hb2.out.kept kt (by simpa using N3.out))
       replace KK:=hjd (KK.out.a0p kt L3.out)
       clear bt kt))
   refine⟨rfl,by kernel_rfl,?_⟩
   go_wp2_with fail
   go_roundg (keys.length - (j + 1))
   case measure=>omega
   case rel=>exact⟨j + 1,by omega,by omega,by go_num,hb3,hb2,KK.out⟩
  ·obtain rfl:j=keys.length:=by omega
   replace hb3:=hjd (show Blk wr g3 26 (bv (b2h keys)).toArray from by have:=hb3.out;rwa [List.take_length]at this)
   have hvl:=hjd (b3c keys)
   have hnl:=hjd (show keys.length < 18446744073709551616 from by omega)
   have hsl:=hjd (show(b4q keys).length=32 from a3e _)
   have csum:=hjd (fun(u:World) (pv:Value) (h:d5t [2] (be8 keys.length) (b2h keys) pv u)=>(show Calls Try.prog 55 #[pv] u fun e w'=>e= .returned (ab (b4q keys))∧Kept [] u w' from by
    obtain⟨p1,p2,p3,hp⟩:=h
    have:=b4d pv _ u hp (by simp) (by simp [a0w,bytesOf,a2k,hvl.out])
    simpa [a0w,bytesOf,b4q]using this))
   go_wp2_with fail
   refine Txt.a4e (by kernel_rfl) [a4a [2],Txt.isV (.slice KA keys.length kap),Txt.isV (.int .i64 (keys.length:Int)),Txt.isV (.int .u64 (keys.length:Int)),a4a (be8 keys.length),a4a (b2h keys),d5t [2] (be8 keys.length) (b2h keys),Txt.isV (ab (b4q keys))] (fun u=>Kept [] wr u) (by kernel_rfl) rfl rfl (by kernel_rfl) ((Kept.refl [] wr).drew) (fun u u2 h k=>h.a0f k) ⟨?_,?_,?_,?_,?_,?_,?_,?_,trivial⟩ ?_
   ·exact b9u (b:=2) rfl rfl
   ·exact a2n (x:=0) rfl (by decide) fun a W hx=>a6y rfl W hx
   ·refine a7t fun a u hS hr _=>?_
    have e0:=hr 1 _ 19 _ rfl rfl rfl ⟨⟨1,.data⟩,by simp,rfl,rfl⟩
    exact c0i rfl u e0
   ·refine a7t fun a u hS hr _=>?_
    have e0:=hr 2 _ 20 _ rfl rfl rfl ⟨⟨2,.data⟩,by simp,rfl,rfl⟩
    exact c2w hnl.out rfl u e0
   ·refine Txt.a2d rfl b4y (fun v u u2 h k=>a4a.a0q h k) fun a u hS hr _=>?_
    have e1:a.tmps.getD 21 undef=(.int .u64 (keys.length:Int)):=hr 3 _ 21 _ rfl rfl rfl ⟨⟨3,.data⟩,by simp,rfl,rfl⟩
    have hm:Array.map a.eval #[.const (.slice none 0 0),.tmp 21]= #[.slice none 0 0,(.int .u64 (keys.length:Int))]:=by simp only [List.map_toArray,List.map_cons,List.map_nil,Act.eval,e1]
    rw [hm]
    refine((d4z keys.length hnl.out u)).mono ?_
    rintro e u2 ⟨v,rfl,hv,hk⟩
    exact⟨v,rfl,hv,hk⟩
   ·exact b8l (x:=3) (g:=g3) rfl rfl (by decide) (a4u hb3.out hvl.out)
   ·exact b3r (x:=18) (y:=22) (z:=23) (i:=0) (j:=4) (k:=5) rfl rfl rfl rfl ⟨⟨0,.data⟩,by simp,rfl,rfl⟩ rfl rfl rfl ⟨⟨4,.data⟩,by simp,rfl,rfl⟩ rfl rfl rfl ⟨⟨5,.data⟩,by simp,rfl,rfl⟩
   ·refine Txt.a2d rfl c7a (fun _ _ _ h _=>h) fun a u hS hr _=>?_
    have e0:=hr 6 _ 24 _ rfl rfl rfl ⟨⟨6,.data⟩,by simp,rfl,rfl⟩
    have hm:Array.map a.eval #[.tmp 24]= #[a.tmps.getD 24 undef]:=by simp only [List.map_toArray,List.map_cons,List.map_nil,Act.eval]
    rw [hm]
    refine(csum.out u _ e0).mono ?_
    rintro e u2 ⟨rfl,hk⟩
    exact⟨_,rfl,rfl,hk⟩
   intro v wc kc hv
   have v1:v 1=(.slice KA keys.length kap):=hv 1 _ rfl
   have v2:v 2=(.int .i64 (keys.length:Int)):=hv 2 _ rfl
   have v3:v 3=(.int .u64 (keys.length:Int)):=hv 3 _ rfl
   have v7:v 7=(ab (b4q keys)):=hv 7 _ rfl
   clear hv
   simp [Txt.a1f,List.range,List.range.loop,Act.put,v1,v2,v3,v7]
   generalize v 0=u0 at *
   generalize v 4=u4 at *
   generalize v 5=u5 at *
   generalize v 6=u6 at *
   clear v1 v2 v3 v7
   refine a3q a1o.row (.tmp 2) (.tmp 25) rfl rfl rfl (hb2.out.kept kc (by simp)) (by simpa using hzl.out) (by simpa using hsl.out) (a2r _) ?_
   simp [Act.put]
   have bz:=(hb2.out.kept kc (by simp)).a3w (bv (b4q keys)).toArray
   have kk:Kept [g2] wc (wc.setRow g2 (bv (b4q keys)).toArray):=(Kept.refl [g2] wc).setRow (.inl (by simp)) _
   have kz:=(KK.out.a0f kc).a0p kk L2.out
   clear kk kc hb2 hb3
   go_wp2_with fail
   exact a1i a1o.row rfl rfl bz (by simpa using hsl.out) rfl ⟨rfl,kz⟩
end Go.Proofs.Ytdbngnlpafcogaa
namespace Go.Proofs.Ytdbngnlpafcogaa
open Go.RowKit Go.Mem Go.Txt
abbrev U32(x:BitVec 32):Value:=.int .u64 (x.toNat:Int)
theorem ofInt64(n:Nat)(h:n < 18446744073709551616):BitVec.ofInt 64 (n:Int)=BitVec.ofNat 64 n:=by
 apply BitVec.eq_of_toNat_eq
 rw [BitVec.toNat_ofInt,BitVec.toNat_ofNat]
 omega
theorem a6o(x:BitVec 64):IntKind.u64.wrap (x.toNat:Int)=x.toNat:=by
 have:=x.isLt
 rw [IntKind.wrap_u64];omega
theorem or64d(m n:Nat)(hm:m < 18446744073709551616)(hn:n < 18446744073709551616):bits .or .u64 (m:Int) (n:Int)=((m ||| n:Nat):Int):=by
 show IntKind.u64.wrap (((BitVec.ofInt 64 (m:Int)) ||| (BitVec.ofInt 64 (n:Int))).toNat:Nat)=_
 rw [ofInt64 m hm,ofInt64 n hn,a6o,BitVec.toNat_or,BitVec.toNat_ofNat,BitVec.toNat_ofNat,Nat.mod_eq_of_lt hm,Nat.mod_eq_of_lt hn]
theorem and64(m n:Nat)(hm:m < 18446744073709551616)(hn:n < 18446744073709551616):bits .and .u64 (m:Int) (n:Int)=((m &&& n:Nat):Int):=by
 show IntKind.u64.wrap (((BitVec.ofInt 64 (m:Int)) &&& (BitVec.ofInt 64 (n:Int))).toNat:Nat)=_
 rw [ofInt64 m hm,ofInt64 n hn,a6o,BitVec.toNat_and,BitVec.toNat_ofNat,BitVec.toNat_ofNat,Nat.mod_eq_of_lt hm,Nat.mod_eq_of_lt hn]
theorem xor64(m n:Nat)(hm:m < 18446744073709551616)(hn:n < 18446744073709551616):bits .xor .u64 (m:Int) (n:Int)=((m ^^^ n:Nat):Int):=by
 show IntKind.u64.wrap (((BitVec.ofInt 64 (m:Int)) ^^^ (BitVec.ofInt 64 (n:Int))).toNat:Nat)=_
 rw [ofInt64 m hm,ofInt64 n hn,a6o,BitVec.toNat_xor,BitVec.toNat_ofNat,BitVec.toNat_ofNat,Nat.mod_eq_of_lt hm,Nat.mod_eq_of_lt hn]
theorem uxor(x y:BitVec 32):bits .xor .u64 (x.toNat:Int) (y.toNat:Int)=((x ^^^ y).toNat:Nat):=by
 rw [xor64 _ _ (Nat.lt_trans x.isLt (by decide)) (Nat.lt_trans y.isLt (by decide)),BitVec.toNat_xor]
theorem uand(x y:BitVec 32):bits .and .u64 (x.toNat:Int) (y.toNat:Int)=((x &&& y).toNat:Nat):=by
 rw [and64 _ _ (Nat.lt_trans x.isLt (by decide)) (Nat.lt_trans y.isLt (by decide)),BitVec.toNat_and]
theorem uor(x y:BitVec 32):bits .or .u64 (x.toNat:Int) (y.toNat:Int)=((x ||| y).toNat:Nat):=by
 rw [or64d _ _ (Nat.lt_trans x.isLt (by decide)) (Nat.lt_trans y.isLt (by decide)),BitVec.toNat_or]
theorem d4m(x:BitVec 32)(n:Nat)(h1:1≤n)(h2:n≤31):(bits .or .u64 ((x.toNat:Int) / 2 ^ n) (IntKind.u64.wrap ((x.toNat:Int) * 2 ^ (32 - n)))).tmod 4294967296=((rl x (32 - n)).toNat:Nat):=by
 have hx:=x.isLt
 have hp:2 ^ (32 - n)≤2 ^ 31:=Nat.pow_le_pow_right (by decide) (by omega)
 have hm:x.toNat * 2 ^ (32 - n) < 18446744073709551616:=by
  have:=Nat.mul_le_mul (Nat.le_of_lt hx) hp
  omega
 have e1:(x.toNat:Int) / 2 ^ n=((x.toNat / 2 ^ n:Nat):Int):=by rw [Int.natCast_ediv,Int.natCast_pow];rfl
 have e2:(x.toNat:Int) * 2 ^ (32 - n) % 18446744073709551616=((x.toNat * 2 ^ (32 - n):Nat):Int):=by
  have:(x.toNat:Int) * 2 ^ (32 - n)=((x.toNat * 2 ^ (32 - n):Nat):Int):=by rw [Int.natCast_mul,Int.natCast_pow];rfl
  rw [this];omega
 have hd:x.toNat / 2 ^ n < 18446744073709551616:=Nat.lt_of_le_of_lt (Nat.div_le_self _ _) (by omega)
 rw [IntKind.wrap_u64,e1,e2,or64d _ _ hd hm,Int.tmod_eq_emod_of_nonneg (by omega)]
 unfold rl
 rw [BitVec.toNat_or,BitVec.toNat_shiftLeft,BitVec.toNat_ushiftRight,Nat.shiftLeft_eq,Nat.shiftRight_eq_div_pow,show 32 - (32 - n)=n from by omega]
 have hmod:((x.toNat / 2 ^ n ||| x.toNat * 2 ^ (32 - n)) % 4294967296:Nat)=x.toNat * 2 ^ (32 - n) % 2 ^ 32 ||| x.toNat / 2 ^ n:=by
  rw [show(4294967296:Nat)=2 ^ 32 from rfl,Nat.or_mod_two_pow,Nat.or_comm]
  congr 1
  exact Nat.mod_eq_of_lt (Nat.lt_of_le_of_lt (Nat.div_le_self _ _) hx)
 rw [←hmod]
 omega
theorem b0a(x:BitVec 32)(n:Nat)(h1:1≤n)(h2:n≤31)(w:World) :
 Calls Try.prog 119 #[U32 x,.int .u64 (n:Int),.int .u64 32] w fun e w'=>e= .returned (U32 (rl x (32 - n)))∧Kept [] w w':=by
 have K:=hjd (Kept.refl [] w)
 have e1:(32:Int) - n=((32 - n:Nat):Int):=by omega
 have e3:∀t:Nat,((t:Int)).toNat=t:=fun t=>rfl
 have hv:=d4m x n h1 h2
 go_enter Try.func119,Try.ntmps119
 go_wp2_with fail
 go_ret
 exact⟨rfl,K.out⟩
end Go.Proofs.Ytdbngnlpafcogaa
namespace Go.Mem
open Go.RowKit Go.Txt
section
variable {P:Program} {w:World} {a:Act} {ops:Array Oper} {rest:List Oper} {o:Oper} {Q:Exit→Act→World→Prop} {t e:TypeId} {bytes:Nat} {z:Value}
theorem a9a(hgd:Region.wanted o (yielded ops a.tmps)=true)(T:SliceT P t e 1 bytes z){n:Nat}{ps:Array (Nat × Operand)}(ho:o.op= .buildSlice t n ps){vs:List (Nat × Value)}(hv:(ps.map fun(p:Nat × Operand)=>(p.1,a.eval p.2)).toList=vs)
 (h0:0 < n) (hsmall:n≤2 ^ 24) {cells:Array Value} (hf:Instr.fill (fun i=>some (i * 1,1)) ((Array.range (n * 1)).map (z.cells[· % z.cells.size]!)) vs=some cells)
 (h:∀g w',Made w w' g e cells→wpList P ops Q rest (a.put o.dst (.slice (some ⟨g,0,none⟩) n n)) w'):wpList P ops Q (o :: rest) a w:=by
 obtain⟨i,hi,hz,hs,hb⟩:=info_parts T.2
 refine a1k hgd fun _ hK=>wp_buildSlice t e n _ ho cells i z T.1 hi hz (by rw [hs];omega) (by rw [hs];omega) (by rw [hs];exact(congrArg (Instr.fill _ _) hv).trans hf) (hK _ _ (h _ _ ⟨Blk.new _ _ _,(Kept.refl [] w).alloc _,Nat.le_refl _⟩))
end
end Go.Mem
namespace Go.Proofs.Ytdbngnlpafcogaa
open Go.RowKit Go.Mem Go.Txt
theorem b8f:SliceT Try.prog 131 80 1 8 (.int .u64 0):=⟨Try.underlying131,by kernel_rfl,rfl,by omega⟩
theorem uintsT:SliceT Try.prog 164 53 1 8 (.int .u64 0):=⟨Try.underlying164,by kernel_rfl,rfl,by omega⟩
theorem b3x(n:Nat)(w:World):Calls Try.prog 113 #[.int .u64 (n:Int),.int .u64 32] w fun e w'=>e= .returned (.int .u64 ((n % 4294967296:Nat):Int))∧Kept [] w w':=by
 have K:=hjd (Kept.refl [] w)
 have e1:(n:Int) % 4294967296=((n % 4294967296:Nat):Int):=rfl
 have e2:(n:Int).tmod 4294967296=((n % 4294967296:Nat):Int):=by rw [Int.tmod_eq_emod_of_nonneg (by omega)];rfl
 generalize n % 4294967296=m at *
 go_enter Try.func113,Try.ntmps113
 go_wp2_with fail
 go_ret
 exact⟨rfl,K.out⟩
set_option maxHeartbeats 800000 in
theorem b4m(x:BitVec 32)(a b c:Nat)(ha1:1≤a)(ha:a≤31)(hb1:1≤b)(hb:b≤31)(hc1:1≤c)(hc:c≤31)(w:World) :
 Calls Try.prog 114 #[U32 x,.int .u64 32,.int .u64 (a:Int),.int .u64 (b:Int),.int .u64 (c:Int),.bool true] w fun e w'=>e= .returned (U32 ((rl x (32 - a) ^^^ rl x (32 - b)) ^^^ x >>> c))∧Kept [] w w':=by
 have ca:=hjd (b0a x a ha1 ha)
 have cb:=hjd (b0a x b hb1 hb)
 have e3:∀t:Nat,((t:Int)).toNat=t:=fun t=>rfl
 go_enter Try.func114,Try.ntmps114
 go_wp2_with (first
  | (go_at_call 119;(with_reducible refine(ca.out _).mono ?_);rintro e w1 ⟨rfl,k1⟩;have K:=hjd k1;clear k1 ca)
  | (go_at_call 119;(with_reducible refine(cb.out _).mono ?_);rintro e w1 ⟨rfl,k1⟩;replace K:=hjd (K.out.a0f k1);clear k1 cb))
 go_ret
 refine⟨?_,K.out⟩
 show Ending.returned (.int .u64 (bits .xor .u64 (bits .xor .u64 ((rl x (32 - a)).toNat:Int) ((rl x (32 - b)).toNat:Int)) ((x.toNat:Int) / 2 ^ c)))=_
 rw [d6u,uxor,uxor]
set_option maxHeartbeats 800000 in
theorem b5m(x:BitVec 32)(a b c:Nat)(ha1:1≤a)(ha:a≤31)(hb1:1≤b)(hb:b≤31)(hc1:1≤c)(hc:c≤31)(w:World) :
 Calls Try.prog 114 #[U32 x,.int .u64 32,.int .u64 (a:Int),.int .u64 (b:Int),.int .u64 (c:Int),.bool false] w fun e w'=>e= .returned (U32 ((rl x (32 - a) ^^^ rl x (32 - b)) ^^^ rl x (32 - c)))∧Kept [] w w':=by
 have ca:=hjd (b0a x a ha1 ha)
 have cb:=hjd (b0a x b hb1 hb)
 have cc:=hjd (b0a x c hc1 hc)
 go_enter Try.func114,Try.ntmps114
 go_wp2_with (first
  | (go_at_call 119;(with_reducible refine(ca.out _).mono ?_);rintro e w1 ⟨rfl,k1⟩;have K:=hjd k1;clear k1 ca)
  | (go_at_call 119;(with_reducible refine(cb.out _).mono ?_);rintro e w1 ⟨rfl,k1⟩;replace K:=hjd (K.out.a0f k1);clear k1 cb)
  | (go_at_call 119;(with_reducible refine(cc.out _).mono ?_);rintro e w1 ⟨rfl,k1⟩;replace K:=hjd (K.out.a0f k1);clear k1 cc))
 go_ret
 refine⟨?_,K.out⟩
 show Ending.returned (.int .u64 (bits .xor .u64 (bits .xor .u64 ((rl x (32 - a)).toNat:Int) ((rl x (32 - b)).toNat:Int)) ((rl x (32 - c)).toNat:Int)))=_
 rw [uxor,uxor]
theorem c6c(t:Nat)(ht:t < 8)(w:World):Calls Try.prog 112 #[.int .i64 (t:Int)] w fun e w'=>e= .returned (.int .u64 ((a3d.getD t 0:Nat):Int))∧Kept [] w w':=by
 have hg:=hjd (show∀(u:World) (g:Nat),Blk u g 80 (uv a3d).toArray→u.cell? ⟨g,t,none⟩=some (.int .u64 ((a3d.getD t 0:Nat):Int))from fun u g hb=>by
  have hl:t < a3d.length:=ht
  rw [hb.uget t hl,List.getD_eq_getElem?_getD,List.getElem?_eq_getElem hl];rfl)
 generalize a3d.getD t 0=r at *
 go_enter Try.func112,Try.ntmps112
 go_wp2_with (first
  | ((with_reducible refine a0l 3 ?_);(refine a9a (o:=⟨some 3,_,_,_,_,_⟩) (cells:=(uv a3d).toArray) (vs:=(uv a3d).zipIdx.map fun p=>(p.2,p.1)) rfl b8f rfl (by kernel_rfl) (by decide) (by decide) (by kernel_rfl) ?_);intro g3 w3 m3
     have q:=hg.out w3 g3 m3.blk
     have K:=hjd m3.kept
     clear m3))
 go_ret
 exact⟨rfl,K.out⟩
set_option maxHeartbeats 800000 in
theorem d3t(t:Nat)(ht:t < 80)(w:World):Calls Try.prog 115 #[.int .i64 (t:Int)] w fun e w'=>e= .returned (.int .u64 ((a1s.getD t 0:Nat):Int))∧Kept [] w w':=by
 have hg:=hjd (show∀(u:World) (g:Nat),Blk u g 80 (uv a1s).toArray→u.cell? ⟨g,t,none⟩=some (.int .u64 ((a1s.getD t 0:Nat):Int))from fun u g hb=>by
  have hl:t < a1s.length:=ht
  rw [hb.uget t hl,List.getD_eq_getElem?_getD,List.getElem?_eq_getElem hl];rfl)
 generalize a1s.getD t 0=r at *
 go_enter Try.func115,Try.ntmps115
 go_wp2_with (first
  | ((with_reducible refine a0l 3 ?_);(refine a9a (o:=⟨some 3,_,_,_,_,_⟩) (cells:=(uv a1s).toArray) (vs:=(uv a1s).zipIdx.map fun p=>(p.2,p.1)) rfl b8f rfl (by kernel_rfl) (by decide) (by decide) (by kernel_rfl) ?_);intro g3 w3 m3
     have q:=hg.out w3 g3 m3.blk
     have K:=hjd m3.kept
     clear m3))
 go_ret
 exact⟨rfl,K.out⟩
end Go.Proofs.Ytdbngnlpafcogaa
namespace Go.Mem
open Go.RowKit Go.Txt
section
variable {P:Program} {w:World} {a:Act} {ops:Array Oper} {rest:List Oper} {o:Oper} {Q:Exit→Act→World→Prop} {t e:TypeId} {bytes:Nat} {z:Value}
theorem c1y(hgd:Region.wanted o (yielded ops a.tmps)=true)(T:SliceT P t e 1 bytes z){x0 x1 x2 x3 x4 x5 x6 x7:Operand}(ho:o.op= .buildSlice t 8 #[(0,x0),(1,x1),(2,x2),(3,x3),(4,x4),(5,x5),(6,x6),(7,x7)]){v0 v1 v2 v3 v4 v5 v6 v7:Value}(h0:a.eval x0=v0)(h1:a.eval x1=v1)(h2:a.eval x2=v2)(h3:a.eval x3=v3)(h4:a.eval x4=v4)(h5:a.eval x5=v5)(h6:a.eval x6=v6)(h7:a.eval x7=v7)
 (c0:v0.cells= #[v0]) (c1:v1.cells= #[v1]) (c2:v2.cells= #[v2]) (c3:v3.cells= #[v3]) (c4:v4.cells= #[v4]) (c5:v5.cells= #[v5]) (c6:v6.cells= #[v6]) (c7:v7.cells= #[v7])
 (h:∀g w',Made w w' g e #[v0,v1,v2,v3,v4,v5,v6,v7]→wpList P ops Q rest (a.put o.dst (.slice (some ⟨g,0,none⟩) 8 8)) w'):wpList P ops Q (o :: rest) a w:=by
 obtain⟨i,hi,hz,hs,hb⟩:=info_parts T.2
 have e2:(#[(0,x0),(1,x1),(2,x2),(3,x3),(4,x4),(5,x5),(6,x6),(7,x7)].map fun(p:Nat × Operand)=>(p.1,a.eval p.2)).toList= [(0,v0),(1,v1),(2,v2),(3,v3),(4,v4),(5,v5),(6,v6),(7,v7)]:=by simp [h0,h1,h2,h3,h4,h5,h6,h7]
 have hf:Instr.fill (fun i=>some (i * 1,1)) ((Array.range (8 * 1)).map (z.cells[· % z.cells.size]!)) [(0,v0),(1,v1),(2,v2),(3,v3),(4,v4),(5,v5),(6,v6),(7,v7)]=some #[v0,v1,v2,v3,v4,v5,v6,v7]:=by
  have hr:∀f:Nat→Value,(Array.range (8 * 1)).map f= #[f 0,f 1,f 2,f 3,f 4,f 5,f 6,f 7]:=fun f=>Array.toList_inj.1 (by rw [Array.toList_map,Array.toList_range];rfl)
  rw [hr]
  simp [Instr.fill,c0,c1,c2,c3,c4,c5,c6,c7]
 refine a1k hgd fun _ hK=>wp_buildSlice t e 8 _ ho #[v0,v1,v2,v3,v4,v5,v6,v7] i z T.1 hi hz (by rw [hs];omega) (by rw [hs];omega) (by rw [hs];exact(congrArg (Instr.fill _ _) e2).trans hf) (hK _ _ (h _ _ ⟨Blk.new _ _ _,(Kept.refl [] w).alloc _,Nat.le_refl _⟩))
end
end Go.Mem
namespace Go.Proofs.Ytdbngnlpafcogaa
open Go.RowKit Go.Mem Go.Txt
abbrev N64(n:Nat):Value:=.int .u64 (n:Int)
def nL:List Nat:=[2,13,22,6,11,25,7,18,3,17,19,10]
theorem d0p{α:Type}(v:α→Value)(z:α)(N:Nat):List.replicate N (v z)=((fam N (fun _=>z)).map v).toArray.toList:=by
 apply List.ext_getElem (by simp [fam])
 intro i h1 h2
 simp [fam]
theorem c3a(N:Nat)(h:N≤2000):∃Z:Array Value,Z=((fam N (fun _=>0)).map N64).toArray∧∀W:World,(Instr.makeSlice 131 (.int .i64 N) (.int .i64 N)).run Try.prog W= .ok (.slice (some ⟨W.heap.size,0,none⟩) N N) (W.alloc (.cells Z 80)):=by
 refine⟨_,?_,fun W=>run_mk b8f N (by omega) (by omega) W⟩
 apply Array.toList_inj.1
 rw [show(Value.int IntKind.u64 0).cells= #[N64 0]from rfl,b0m]
 exact d0p N64 0 N
theorem d3i(N:Nat)(h:N≤2000):∃Z:Array Value,Z=((fam N (fun _=>(0:UInt8))).map a1p).toArray∧∀W:World,(Instr.makeSlice 23 (.int .i64 N) (.int .i64 N)).run Try.prog W= .ok (.slice (some ⟨W.heap.size,0,none⟩) N N) (W.alloc (.cells Z 5)):=by
 refine⟨_,?_,fun W=>run_mk a1n N (by omega) (by omega) W⟩
 apply Array.toList_inj.1
 rw [show(Value.int IntKind.u8 0).cells= #[a1p 0]from rfl,b0m]
 exact d0p a1p 0 N
def wp(p:Nat→UInt8)(t:Nat):Nat→Nat
 | 0=>0
 | k + 1=>wp p t k * 256 + (p (4 * t + k)).toNat
theorem d0m{a b i:Nat}(h:b < 2 ^ i):a * 2 ^ i ||| b=a * 2 ^ i + b:=by
 rw [Nat.mul_comm]
 exact(Nat.two_pow_add_eq_or_of_lt h a).symm
theorem d8y(p:Nat→UInt8)(t:Nat):wp p t 4=(d3r p t).toNat:=by
 have h0:=UInt8.toNat_lt (p (4 * t))
 have h1:=UInt8.toNat_lt (p (4 * t + 1))
 have h2:=UInt8.toNat_lt (p (4 * t + 2))
 have h3:=UInt8.toNat_lt (p (4 * t + 3))
 unfold d3r
 simp only [wp,Nat.add_zero,Nat.zero_mul,Nat.zero_add]
 generalize (p (4 * t)).toNat=a at *
 generalize (p (4 * t + 1)).toNat=b at *
 generalize (p (4 * t + 2)).toNat=c at *
 generalize (p (4 * t + 3)).toNat=d at *
 simp only [BitVec.toNat_or,BitVec.toNat_shiftLeft,BitVec.toNat_ofNat,Nat.shiftLeft_eq]
 rw [Nat.mod_eq_of_lt (show a < 2 ^ 32 by omega),Nat.mod_eq_of_lt (show b < 2 ^ 32 by omega),Nat.mod_eq_of_lt (show c < 2 ^ 32 by omega),Nat.mod_eq_of_lt (show d < 2 ^ 32 by omega)]
 rw [Nat.mod_eq_of_lt (show a * 2 ^ 24 < 2 ^ 32 by omega),Nat.mod_eq_of_lt (show b * 2 ^ 16 < 2 ^ 32 by omega),Nat.mod_eq_of_lt (show c * 2 ^ 8 < 2 ^ 32 by omega)]
 rw [show a * 2 ^ 24 ||| b * 2 ^ 16=(a * 2 ^ 8 + b) * 2 ^ 16 from by rw [d0m (a:=a) (i:=24) (by omega)];omega]
 rw [show(a * 2 ^ 8 + b) * 2 ^ 16 ||| c * 2 ^ 8=((a * 2 ^ 8 + b) * 2 ^ 8 + c) * 2 ^ 8 from by rw [d0m (i:=16) (by omega)];omega]
 rw [d0m (i:=8) (by omega)]
theorem wp_lt(p:Nat→UInt8)(t:Nat):∀k,wp p t k < 256 ^ k
 | 0=>by simp [wp]
 | k + 1=>by
   have:=wp_lt p t k
   have h:=UInt8.toNat_lt (p (4 * t + k))
   simp only [wp,Nat.pow_succ]
   omega
def rdX(p:Nat→UInt8)(t k i:Nat):Nat:=if i < t then(d3r p i).toNat else if i=t then wp p t k else 0
theorem d5r(p:Nat→UInt8)(t:Nat):rdX p t 4=rdX p (t + 1) 0:=by
 funext i
 unfold rdX
 by_cases h1:i < t
 ·rw [if_pos h1,if_pos (by omega)]
 ·rw [if_neg h1]
  by_cases h2:i=t
  ·subst h2;rw [if_pos rfl,if_pos (by omega),d8y]
  ·rw [if_neg h2,if_neg (by omega)]
   split <;> rfl
theorem e1m(p:Nat→UInt8)(t k:Nat):(fun j=>if j=t then wp p t (k + 1)else rdX p t k j)=rdX p t (k + 1):=by
 funext i
 unfold rdX
 by_cases h2:i=t
 ·subst h2;rw [if_pos rfl,if_neg (Nat.lt_irrefl _),if_pos rfl]
 ·rw [if_neg h2,if_neg h2,if_neg h2]
theorem rdX_at(p:Nat→UInt8)(t k:Nat):rdX p t k t=wp p t k:=by unfold rdX;rw [if_neg (Nat.lt_irrefl _),if_pos rfl]
theorem d9v(p:Nat→UInt8):rdX p 16 0=mix (fun _=>0) (fun i=>(sch p i).toNat) 16:=by
 funext i
 unfold rdX mix
 by_cases h1:i < 16
 ·rw [if_pos h1,if_pos h1]
  show(d3r p i).toNat=(sch p i).toNat
  rw [c0g p h1]
 ·rw [if_neg h1,if_neg h1]
  split <;> rfl
theorem unot(x:BitVec 32):∃n:Nat,bits .xor .u64 IntKind.u64.max (x.toNat:Int)=(n:Int)∧n % 4294967296=(~~~x).toNat:=by
 have hx:=x.isLt
 refine⟨18446744073709551615 - x.toNat,?_,?_⟩
 ·have e:BitVec.ofInt 64 IntKind.u64.max=BitVec.allOnes 64:=by decide
  show IntKind.u64.wrap (((BitVec.ofInt 64 IntKind.u64.max) ^^^ (BitVec.ofInt 64 (x.toNat:Int))).toNat:Nat)=_
  rw [e,ofInt64 _ (by omega),BitVec.allOnes_xor,a6o,BitVec.toNat_not,BitVec.toNat_ofNat]
  omega
 ·rw [BitVec.toNat_not]
  omega
def VR(u:World)(g o:Nat)(v:Nat→BitVec 32):Prop:=∀j,j < 8→u.cell? ⟨g,o + j,none⟩=some (U32 (v j))
def VC(u:World)(g o a0 a1 a2 a3 a4 a5 a6 a7:Nat):Prop:=
 u.cell? ⟨g,o,none⟩=some (N64 a0)∧u.cell? ⟨g,o + 1,none⟩=some (N64 a1)∧u.cell? ⟨g,o + 2,none⟩=some (N64 a2)∧u.cell? ⟨g,o + 3,none⟩=some (N64 a3)∧u.cell? ⟨g,o + 4,none⟩=some (N64 a4)∧u.cell? ⟨g,o + 5,none⟩=some (N64 a5)∧u.cell? ⟨g,o + 6,none⟩=some (N64 a6)∧u.cell? ⟨g,o + 7,none⟩=some (N64 a7)
theorem VC.of{u:World}{g o:Nat}{v:Nat→BitVec 32}(h:VR u g o v):VC u g o (v 0).toNat (v 1).toNat (v 2).toNat (v 3).toNat (v 4).toNat (v 5).toNat (v 6).toNat (v 7).toNat:=
 ⟨h 0 (by decide),h 1 (by decide),h 2 (by decide),h 3 (by decide),h 4 (by decide),h 5 (by decide),h 6 (by decide),h 7 (by decide)⟩
theorem VC.a0q{u u':World}{g o a0 a1 a2 a3 a4 a5 a6 a7:Nat}(h:VC u g o a0 a1 a2 a3 a4 a5 a6 a7)(k:Kept [] u u'):VC u' g o a0 a1 a2 a3 a4 a5 a6 a7:=by
 obtain⟨h0,h1,h2,h3,h4,h5,h6,h7⟩:=h
 exact⟨k.cell h0 (by simp),k.cell h1 (by simp),k.cell h2 (by simp),k.cell h3 (by simp),k.cell h4 (by simp),k.cell h5 (by simp),k.cell h6 (by simp),k.cell h7 (by simp)⟩
theorem VR.a0q{u u':World}{g o:Nat}{v:Nat→BitVec 32}(h:VR u g o v)(k:Kept [] u u'):VR u' g o v:=fun j hj=>k.cell (h j hj) (by simp)
theorem VR.keptS{u u':World}{S:List Nat}{g o:Nat}{v:Nat→BitVec 32}(h:VR u g o v)(k:Kept S u u')(hg:g∉S):VR u' g o v:=fun j hj=>k.cell (h j hj) hg
theorem b3b{α:Type}(n:Nat)(f:Nat→α):fam (n + 1) f=fam n f ++ [f n]:=by unfold fam;rw [List.range_succ,List.map_append];rfl
theorem VC.vr{u:World}{g:Nat}{v:Nat→BitVec 32}{cs:Array Value}{t:TypeId}(hb:Blk u g t cs)(he:(fam 8 fun j=>(v j).toNat).map N64=cs.toList):VR u g 0 v:=by
 intro j hj
 rw [Nat.zero_add,hb.cell,←Array.getElem?_toList,←he]
 simp [fam,hj]
theorem ch_val(e f g:BitVec 32):bits .or .u64 (bits .and .u64 (e.toNat:Int) (f.toNat:Int)) (bits .and .u64 ((~~~e).toNat:Int) (g.toNat:Int))=((chB e f g).toNat:Int):=by rw [uand,uand,uor,ch_or]
theorem mj_val(a b c:BitVec 32):bits .or .u64 (bits .or .u64 (bits .and .u64 (a.toNat:Int) (b.toNat:Int)) (bits .and .u64 (a.toNat:Int) (c.toNat:Int))) (bits .and .u64 (b.toNat:Int) (c.toNat:Int))=((mjB a b c).toNat:Int):=by rw [uand,uand,uand,uor,uor,mj_or]
theorem d4i(k m:BitVec 32)(v:Nat→BitVec 32):∃z0 z4:Nat,z0=((v 7).toNat + (us1 (v 4)).toNat + (chB (v 4) (v 5) (v 6)).toNat + k.toNat + m.toNat + ((us0 (v 0)).toNat + (mjB (v 0) (v 1) (v 2)).toNat)) % 4294967296∧
 z4=((v 3).toNat + ((v 7).toNat + (us1 (v 4)).toNat + (chB (v 4) (v 5) (v 6)).toNat + k.toNat + m.toNat)) % 4294967296∧
 (fam 8 fun j=>(rnd k m v j).toNat).map N64= #[N64 z0,N64 (v 0).toNat,N64 (v 1).toNat,N64 (v 2).toNat,N64 z4,N64 (v 4).toNat,N64 (v 5).toNat,N64 (v 6).toNat].toList:=by
 refine⟨(rnd k m v 0).toNat,(rnd k m v 4).toNat,?_,?_,rfl⟩
 ·show(v 7 + us1 (v 4) + chB (v 4) (v 5) (v 6) + k + m + (us0 (v 0) + mjB (v 0) (v 1) (v 2))).toNat=_
  simp only [BitVec.toNat_add]
  omega
 ·show(v 3 + (v 7 + us1 (v 4) + chB (v 4) (v 5) (v 6) + k + m)).toNat=_
  simp only [BitVec.toNat_add]
  omega
theorem b7e:∀k,k < 80→a1s.getD k 0 < 18446744073709551616:=by decide
end Go.Proofs.Ytdbngnlpafcogaa
