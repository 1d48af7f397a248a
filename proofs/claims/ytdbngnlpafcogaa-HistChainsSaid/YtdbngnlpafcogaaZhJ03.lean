/-
  The ring: rows of keys: Clone, Index, Contains.
  The ring: New.
  Digests: Sum512 of known bytes, so that the kernel can reckon it.
  The sign: what was signed is not right for another message, reckoned by the kernel.
  The ring: the first lines' signature, reckoned by the kernel.
  The ring's laws: what must be answered ahead of everything else.
  The document's number: its eight bytes.
  The document's ring: What.
  An identity's keys: what an owner signs.
  Drawn statements: literals of parts that other operations gave.
  An identity's keys: an update in memory; Signed.
  An identity's keys: Signed, where the version is none; Make.
  An identity's keys: Make.
  The ring: Key; a ring that is none; the document's Fits.
  Digests: a message in blocks of 64 bytes.
  Digests: words turned.
  Digests: what a block does: words of 32 bits, plain.
-/
import Derived.Test.YtdbngnlpafcogaaZhRg4
import Derived.Test.YtdbngnlpafcogaaZhJ00
import Derived.Test.YtdbngnlpafcogaaZhJ02
import Derived.Test.YtdbngnlpafcogaaZhFam
set_option maxRecDepth 100000
namespace Go.Proofs.Ytdbngnlpafcogaa
open Go.RowKit Go.Mem Go.Txt
theorem a8h(keys:List (List UInt8)):∀u∈keys.flatMap bv,u.oneCell'=true:=by
 intro u hu
 obtain⟨k,_,hk⟩:=List.mem_flatMap.1 hu
 exact a2v k u hk
theorem getD_eq{keys:List (List UInt8)}{i:Nat}(h:i < keys.length):keys.getD i []=keys[i]:=by simp [List.getD_eq_getElem?_getD,h]
end Go.Proofs.Ytdbngnlpafcogaa
namespace Go.Proofs.Ytdbngnlpafcogaa
open Go.RowKit Go.Mem Go.Txt
theorem d2y{keys:List (List UInt8)}(h:∀k∈keys,k.length=32):∀j,j≤keys.length→(keys.flatMap bv).take (j * 32)=(keys.take j).flatMap bv:=by
 induction keys with
 | nil=>intro j hj;simp
 | cons a l ih=>
   intro j hj
   cases j with
   | zero=>simp
   | succ j=>
     have ha:=h a (by simp)
     rw [List.flatMap_cons,List.take_succ_cons,List.flatMap_cons,←ih (fun k hk=>h k (List.mem_cons_of_mem _ hk)) j (by simpa using hj)]
     rw [List.take_append,List.take_of_length_le (by simp [ha];omega)]
     simp [ha,show(j + 1) * 32 - 32=j * 32 from by omega]
end Go.Proofs.Ytdbngnlpafcogaa
namespace Go.Proofs.Ytdbngnlpafcogaa.Q
open Go.RowKit Go.Mem Go.Txt
def fcN{α:Type}(n:Nat)(f:Nat→α):α:=match n with
 | 0=>f 0
 | k + 1=>f (k + 1)
theorem fcN_eq{α:Type}(n:Nat)(f:Nat→α):fcN n f=f n:=by cases n <;> rfl
def fcB{α:Type}(x:B64)(f:B64→α):α:=fcN x.toNat fun n=>f (BitVec.ofNat 64 n)
theorem c4p{α:Type}(x:B64)(f:B64→α):fcB x f=f x:=by unfold fcB;rw [fcN_eq,BitVec.ofNat_toNat,BitVec.setWidth_eq]
def nxtB(w:List B64):B64:=ls1 (w.getD 14 0) + w.getD 9 0 + ls0 (w.getD 1 0) + w.getD 0 0
def goB:List Nat→List B64→B64→B64→B64→B64→B64→B64→B64→B64→List B64
 | [],_,a,b,c,d,e,f,g,h=>[a,b,c,d,e,f,g,h]
 | k :: ks,w,a,b,c,d,e,f,g,h=>
   fcB (h + us1 e + chB e f g + n64 k + w.getD 0 0) fun t=>
   fcB (t + (us0 a + mjB a b c)) fun x=>
   fcB (d + t) fun y=>
   fcB (nxtB w) fun z=>goB ks (w.tail ++ [z]) x a b c y e f g
theorem d8m(p:Nat→UInt8)(h0:Nat→B64):∀(ks:List Nat) (t:Nat) (w:List B64) (a b c d e f g h:B64),(∀j,j < ks.length→ks.getD j 0=a1s.getD (t + j) 0)→w.length=16→(∀i,i < 16→w.getD i 0=sch p (t + i))→
 a4m p h0 t 0=a→a4m p h0 t 1=b→a4m p h0 t 2=c→a4m p h0 t 3=d→a4m p h0 t 4=e→a4m p h0 t 5=f→a4m p h0 t 6=g→a4m p h0 t 7=h→
 goB ks w a b c d e f g h=(List.range 8).map (a4m p h0 (t + ks.length))
 | [],t,w,_,_,_,_,_,_,_,_,_,_,_,e0,e1,e2,e3,e4,e5,e6,e7=>by
   subst e0 e1 e2 e3 e4 e5 e6 e7
   rfl
 | k :: ks,t,w,_,_,_,_,_,_,_,_,hk,hl,hw,e0,e1,e2,e3,e4,e5,e6,e7=>by
   unfold goB
   rw [c4p,c4p,c4p,c4p]
   have ek:k=a1s.getD t 0:=by have:=hk 0 (by simp);simpa using this
   have ew:w.getD 0 0=sch p t:=hw 0 (by decide)
   have en:nxtB w=sch p (t + 16):=by
    unfold nxtB
    rw [hw 14 (by decide),hw 9 (by decide),hw 1 (by decide),hw 0 (by decide),c0h p (t:=t + 16) (by omega)]
    rfl
   have hk2:∀j,j < ks.length→ks.getD j 0=a1s.getD (t + 1 + j) 0:=fun j hj=>by
    have:=hk (j + 1) (by simp;omega)
    rw [show t + 1 + j=t + (j + 1)from by omega,←this]
    simp
   have hw2:∀i,i < 16→(w.tail ++ [nxtB w]).getD i 0=sch p (t + 1 + i):=fun i hi=>by
    by_cases h15:i=15
    ·subst h15
     rw [List.getD_eq_getElem?_getD,List.getElem?_append_right (by simp [hl]),show t + 1 + 15=t + 16 from by omega,←en]
     simp [hl]
    ·have hi2:i + 1 < 16:=by omega
     have:=hw (i + 1) hi2
     rw [show t + 1 + i=t + (i + 1)from by omega,←this,List.getD_eq_getElem?_getD,List.getElem?_append_left (by simp [hl];omega),List.getD_eq_getElem?_getD]
     simp
   have r0:a4m p h0 (t + 1) 0=a4m p h0 t 7 + us1 (a4m p h0 t 4) + chB (a4m p h0 t 4) (a4m p h0 t 5) (a4m p h0 t 6) + n64 k + w.getD 0 0 + (us0 (a4m p h0 t 0) + mjB (a4m p h0 t 0) (a4m p h0 t 1) (a4m p h0 t 2)):=by
    rw [ek,ew];rfl
   have r4:a4m p h0 (t + 1) 4=a4m p h0 t 3 + (a4m p h0 t 7 + us1 (a4m p h0 t 4) + chB (a4m p h0 t 4) (a4m p h0 t 5) (a4m p h0 t 6) + n64 k + w.getD 0 0):=by
    rw [ek,ew];rfl
   subst e0 e1 e2 e3 e4 e5 e6 e7
   refine(d8m p h0 ks (t + 1) _ _ _ _ _ _ _ _ _ hk2 (by simp [hl]) hw2 r0 rfl rfl rfl r4 rfl rfl rfl).trans ?_
   rw [List.length_cons,show t + 1 + ks.length=t + (ks.length + 1)from by omega]
theorem cubes_len:a1s.length=80:=by decide +kernel
def blkB(p:Nat→UInt8)(h:List B64):List B64:=
 (List.zipWith (· + ·) h (goB a1s ((List.range 16).map (wrd p)) (h.getD 0 0) (h.getD 1 0) (h.getD 2 0) (h.getD 3 0) (h.getD 4 0) (h.getD 5 0) (h.getD 6 0) (h.getD 7 0)))
theorem d9y(p:Nat→UInt8)(h:Nat→B64):blkB p ((List.range 8).map h)=(List.range 8).map (blk p h):=by
 unfold blkB
 have hz:∀i,i < 8→((List.range 8).map h).getD i 0=h i:=fun i hi=>by simp [List.getD_eq_getElem?_getD,hi]
 rw [hz 0 (by decide),hz 1 (by decide),hz 2 (by decide),hz 3 (by decide),hz 4 (by decide),hz 5 (by decide),hz 6 (by decide),hz 7 (by decide)]
 have q:=d8m p h a1s 0 ((List.range 16).map (wrd p)) (h 0) (h 1) (h 2) (h 3) (h 4) (h 5) (h 6) (h 7) (fun j _=>by rw [Nat.zero_add]) (by simp) (fun i hi=>by
  rw [Nat.zero_add,c0g p hi]
  simp [List.getD_eq_getElem?_getD,hi]) rfl rfl rfl rfl rfl rfl rfl rfl
 rw [q,cubes_len]
 rfl
def d4f(b:List UInt8):Nat→List B64
 | 0=>a3d.map n64
 | n + 1=>blkB (fun j=>b.getD (128 * n + j) 0) (d4f b n)
theorem c3b(b:List UInt8):∀n,d4f b n=(List.range 8).map (a4t b n)
 | 0=>rfl
 | n + 1=>by unfold d4f;rw [c3b b n,d9y];rfl
def shaB(m:List UInt8):List UInt8:=(List.range 64).map fun j=>UInt8.ofNat (((d4f (pad m) ((pad m).length / 128)).getD (j / 8) 0).toNat / 2 ^ (56 - 8 * (j % 8)))
theorem b7v(m:List UInt8):sha m=shaB m:=by
 unfold sha shaB b9b
 apply List.map_congr_left
 intro j hj
 have hj2:j < 64:=List.mem_range.1 hj
 have h8:j / 8 < 8:=by omega
 rw [c3b]
 simp [List.getD_eq_getElem?_getD,h8]
end Go.Proofs.Ytdbngnlpafcogaa.Q
namespace Go.Proofs.Ytdbngnlpafcogaa
open Go.RowKit Go.Mem Go.Txt
end Go.Proofs.Ytdbngnlpafcogaa
namespace Go.Proofs.Ytdbngnlpafcogaa
open Go.RowKit Go.Mem Go.Txt
end Go.Proofs.Ytdbngnlpafcogaa
namespace Go.Proofs.Ytdbngnlpafcogaa
open Go.RowKit Go.Mem Go.Txt
abbrev SeC(l S body:List UInt8)(tag:Int):Prop:=∀u v,a4a body v u→Calls Try.prog 17 #[ab l,.int .u8 tag,v] u fun e w'=>e= .returned (ab S)∧Kept [] u w'
theorem seal_c{l body:List UInt8}(tag:UInt8)(z:Int)(hz:(tag.toNat:Int)=z)(hl:l.length=32)(hb:body.length≤140737488351232):SeC l (b7b l (a9j tag body)) body z:=by
 subst hz
 intro u v hv
 exact d5g tag hl v body u hv hb
theorem b7r{w:World}{g:Nat}{t:TypeId}{K:List UInt8}(hb:Blk w g t (bv K).toArray)(hK:K.length=32):Rd w 32 (.slice (some ⟨g,0,none⟩) 1 1) [K].length ([K].flatMap bv):=
 ⟨_,_,rfl,by simp [hK],by simp,fun _=>⟨g,0,rfl,fun j u hu=>by rw [hb.cell,Nat.zero_add];simpa using hu⟩⟩
end Go.Proofs.Ytdbngnlpafcogaa
namespace Go.Proofs.Ytdbngnlpafcogaa
open Go.RowKit Go.Mem Go.Txt
def tl8(v m i:Nat):UInt8:=if m≤i then UInt8.ofNat (v / 256 ^ (7 - i))else 0
theorem d9t(v:Nat):fam 8 (tl8 v 0)=be8 v:=by
 unfold fam be8
 apply List.map_congr_left
 intro i _
 unfold tl8
 rw [if_pos (Nat.zero_le _)]
theorem d3x(v:Nat):fam 8 (tl8 v 8)=a0j 8:=rfl
theorem mkb(n:Nat)(h:n≤1000):∃Z:Array Value,Z=(bv (a0j n)).toArray∧∀W:World,(Instr.makeSlice 23 (.int .i64 n) (.int .i64 n)).run Try.prog W= .ok (.slice (some ⟨W.heap.size,0,none⟩) n n) (W.alloc (.cells Z 5)):=by
 refine⟨madeCells #[.int .u8 0] n,Array.toList_inj.1 (d1c n),fun W=>?_⟩
 exact run_mk a1n n (by omega) (by omega) W
theorem c6d{w w':World}{g:Nat}{xs:List UInt8}(h:Blk w' g 5 (bv xs).toArray)(hk:Kept [] w w')(hg:w.heap.size≤g)(hl:xs.length≤1000):New w w' (.slice (some ⟨g,0,none⟩) xs.length xs.length) xs:=by
 refine⟨Ow.b2a ⟨by simp,.inr ⟨g,xs.length,(bv xs).toArray,rfl,Nat.zero_le _,h,Nat.le_refl _,by simp only [maxLen];omega,by simp,by rw [Nat.mul_one];exact List.take_of_length_le (by simp)⟩⟩,hk,.inr ⟨g,rfl,hg⟩⟩
set_option maxHeartbeats 1600000 in
theorem b3d(v:Nat)(w:World)(hv:v < 18446744073709551616) :
 Calls Try.prog 58 #[.int .u64 v] w fun e w'=>∃v',e= .returned v'∧New w w' v' (be8 v):=by
 obtain⟨Z,hZ,hmk⟩:=mkb 8 (by omega)
 have hmk8:∀W:World,(Instr.makeSlice 23 (.int .i64 8) (.int .i64 8)).run Try.prog W= .ok (.slice (some ⟨W.heap.size,0,none⟩) 8 8) (W.alloc (.cells Z 5)):=hmk
 have H0:=hjd (show Blk (w.alloc (.cells Z 5)) w.heap.size 5 (bv (fam 8 (tl8 v 8))).toArray from by rw [d3x,←hZ];exact Blk.new _ _ _)
 have K0:=hjd ((Kept.refl [] w).alloc (.cells Z 5))
 have hvh:=hjd hv
 clear hZ hmk hv
 go_enter Try.func58,Try.ntmps58
 go_wp2_with fail
 generalize w.alloc (.cells Z 5)=wa at *
 obtain⟨g,hg⟩:∃g,g=w.heap.size:=⟨_,rfl⟩
 rw [←hg]at H0 ⊢
 replace hg:=hjd hg
 go_loopg [4,0] 8 (fun f i x wk=>∃m:Nat,f=m∧m≤8∧i= .int .i64 ((m:Int) - 1)∧x= .int .u64 ((v / 256 ^ (8 - m):Nat):Int)∧Blk wk g 5 (bv (fam 8 (tl8 v m))).toArray∧Kept [g] wa wk)
 case atStart=>exact⟨8,rfl,Nat.le_refl _,rfl,by simp,H0.out,Kept.refl _ _⟩
 case round=>
  obtain⟨m,hf,hm,rfl,rfl,hb,hkw⟩:=hrel
  have H:=hjd hb
  have HK:=hjd hkw
  clear hb hkw
  by_cases hm0:0 < m
  ·have hi0:(0:Int)≤(m:Int) - 1:=by omega
   have hi1:(1:Int)≤(m:Int):=by omega
   have e0:=Blk.a5s (v:=a1p) H.out (m - 1) (by omega)
   have z0:=Blk.frozen H.out (m - 1)
   have hx:v / 256 ^ (8 - m) < 18446744073709551616:=Nat.lt_of_le_of_lt (Nat.div_le_self _ _) hvh.out
   have hn:v / 256 ^ (8 - (m - 1))=v / 256 ^ (8 - m) / 256:=by rw [show 8 - (m - 1)=(8 - m) + 1 from by omega,Nat.pow_succ,Nat.div_div_eq_div_mul]
   have hs:=Blk.d7a (v:=a1p) H.out (m - 1) (UInt8.ofNat (v / 256 ^ (8 - m)))
   have he:fam 8 (fun j=>if j=m - 1 then UInt8.ofNat (v / 256 ^ (8 - m))else tl8 v m j)=fam 8 (tl8 v (m - 1)):=a4f 8 fun i hi=>by
    unfold tl8
    by_cases h:i=m - 1
    ·rw [if_pos h,if_pos (by omega),show 7 - i=8 - m from by omega]
    ·rw [if_neg h]
     by_cases h2:m≤i
     ·rw [if_pos h2,if_pos (by omega)]
     ·rw [if_neg h2,if_neg (by omega)]
   rw [he]at hs
   have F:=hjd hs
   have FK:=hjd (HK.out.setCell (p:=⟨g,m - 1,none⟩) (.inl (by simp)) (a1p (UInt8.ofNat (v / 256 ^ (8 - m)))))
   unfold a1p at F FK
   rw [UInt8.toNat_ofNat',show(((v / 256 ^ (8 - m) % 2 ^ 8:Nat)):Int)=((v / 256 ^ (8 - m):Nat):Int) % 256 from by omega]at F FK
   replace hn:=hjd hn
   generalize v / 256 ^ (8 - m)=x at *
   clear hs he
   go_wp2_with fail
   go_roundg (m - 1)
   case measure=>omega
   case rel=>exact⟨m - 1,rfl,by omega,by go_num,by rw [hn.out];simp,F.out,FK.out⟩
  ·obtain rfl:m=0:=by omega
   have hb:=H.out
   rw [d9t]at hb
   go_wp2_with fail
   go_ret
   refine⟨_,rfl,?_⟩
   have:=c6d hb (K0.out.a0p HK.out (by rw [hg.out];exact Nat.le_refl _)) (by rw [hg.out];exact Nat.le_refl _) (by rw [a2k];omega)
   rwa [a2k]at this
end Go.Proofs.Ytdbngnlpafcogaa
namespace Go.Proofs.Ytdbngnlpafcogaa
open Go.RowKit Go.Mem Go.Txt
end Go.Proofs.Ytdbngnlpafcogaa
namespace Go.Proofs.Ytdbngnlpafcogaa
open Go.RowKit Go.Mem Go.Txt
theorem parts2{w:World}{g:Nat}{t:TypeId}{v1 v2:Value}{x1 x2:List UInt8}(hb:Blk w g t #[v1,v2])(h1:a4a x1 v1 w)(h2:a4a x2 v2 w):Parts w (.slice (some ⟨g,0,none⟩) 2 2) [(v1,x1),(v2,x2)]:=by
 refine⟨⟨_,_,rfl,rfl,Nat.le_refl _,fun _=>⟨g,0,rfl,fun j u hu=>?_⟩⟩,?_⟩
 ·rw [hb.cell,Nat.zero_add]
  simpa using hu
 ·intro x hx
  rcases List.mem_cons.1 hx with rfl | hx
  ·exact h1
  ·rcases List.mem_cons.1 hx with rfl | hx
   ·exact h2
   ·cases hx
def e0d(v:Int):Nat:=(v % 18446744073709551616).toNat
theorem d2n(v:Int):e0d v < 18446744073709551616:=by unfold e0d;omega
def a5a(v:Int)(key:List UInt8):List UInt8:=be8 (e0d v) ++ key
theorem a9w{key:List UInt8}(hk:key.length=32)(v:Int):(a5a v key).length=40:=by
 unfold a5a
 rw [List.length_append,a2k,hk]
theorem a4u{w:World}{g:Nat}{t:TypeId}{l:List UInt8}{n:Nat}(hb:Blk w g t (bv l).toArray)(hl:l.length=n):a4a l (.slice (some ⟨g,0,none⟩) n n) w:=by
 subst hl
 exact⟨_,_,rfl,by simp,Nat.le_refl _,fun _=>⟨g,0,rfl,fun j u hu=>by rw [hb.cell,Nat.zero_add];simpa using hu⟩⟩
set_option maxHeartbeats 1600000 in
theorem b9h{key:List UInt8}(ver:Int)(hk:key.length=32)(w:World) :
 Calls Try.prog 54 #[.int .i64 ver,ab key] w fun e w'=>∃v',e= .returned v'∧a4a (a5a ver key) v' w'∧Kept [] w w':=by
 have hk:=hjd hk
 obtain⟨n,hn⟩:∃n,n=e0d ver:=⟨_,rfl⟩
 have hnl:=hjd (show n < 18446744073709551616 from by rw [hn];exact d2n ver)
 have ew:IntKind.u64.wrap ver=(n:Int):=by
  rw [hn]
  show ver % 18446744073709551616=_
  unfold e0d
  omega
 have hj:=hjd (show a5a ver key=be8 n ++ key from by rw [hn];rfl)
 clear hn
 go_enter Try.func54,Try.ntmps54
 go_wp2_with (first
  | ((with_reducible refine a0l 3 ?_);(refine a0o (o:=⟨some 3,_,_,_,_,_⟩) (v:=ab key) rfl (.tmp 1) rfl rfl ?_);intro g3 w3 m3;have B3:=hjd (show Blk w3 g3 26 (bv key).toArray from m3.blk);have KK:=hjd m3.kept;clear m3))
 refine Txt.a2t (by kernel_rfl) (by kernel_rfl) ?_
 go_wp2_with (first
  | (go_at_call 56;(with_reducible refine(b1b (.slice none 0 0) [] n _ (Rd.nil _ _) (by simp) hnl.out).mono ?_);rintro e v7 ⟨x7,rfl,h7⟩
     obtain⟨NA,nc,rfl,_⟩:=h7.ow.shape
     have R7:=hjd h7.rd
     replace KK:=hjd (KK.out.a0f h7.kept.a2a)
     replace B3:=hjd (B3.out.kept h7.kept.a2a (by simp))
     clear h7)
  | ((with_reducible refine a0l 9 ?_);(refine b9q (o:=⟨some 9,_,_,_,_,_⟩) (v1:=.slice (some ⟨g3,0,none⟩) 32 32) rfl a5b rfl rfl rfl rfl rfl ?_);intro g9 w9 m9
     have PP:=hjd (parts2 m9.blk (R7.out.a0q m9.kept) (a4u (B3.out.kept m9.kept (by simp)) hk.out))
     replace KK:=hjd (KK.out.a0f m9.kept)
     clear m9)
  | (go_at_call 50;(with_reducible refine(c9a _ _ _ PP.out (by simp) (by simp [a0w,bytesOf,a2k,hk.out])).mono ?_);rintro e v10 ⟨x10,rfl,h10⟩
     have R10:=hjd h10.rd
     replace KK:=hjd (KK.out.a0f h10.kept)
     clear h10))
 refine⟨rfl,by kernel_rfl,?_⟩
 go_wp2_with fail
 go_ret
 refine⟨_,rfl,?_,KK.out⟩
 rw [hj.out]
 simpa [a0w,bytesOf]using R10.out
end Go.Proofs.Ytdbngnlpafcogaa
namespace Go.Proofs.Ytdbngnlpafcogaa
open Go.RowKit Go.Mem Go.Txt
section
variable {l:List Oper} {vs:List Rel} {a0:Act} {w0:World} {o:Oper}
theorem b9u{b:UInt8}{c:Int}(ho:o.op= .buildSlice 23 1 #[(0,.const (.int .u8 c))])(hc:(b.toNat:Int)=c):a4y Try.prog l vs (fun u=>Kept [] w0 u) a0 o (a4a [b]):=by
 subst hc
 refine⟨fun _ _ _ h hk=>a4a.a0q h hk,fun a w C R hS hr _ h=>?_⟩
 obtain⟨q,hq,hz,hs,hb⟩:=info_parts a1n.2
 have hv:(#[(0,Operand.const (.int .u8 (b.toNat:Int)))].map fun(p:Nat × Operand)=>(p.1,a.eval p.2)).toList= [(0,.int .u8 (b.toNat:Int))]:=by simp [Act.eval]
 have hf:Instr.fill (fun i=>some (i * 1,1)) ((Array.range (1 * 1)).map ((Value.int .u8 0).cells[· % (Value.int .u8 0).cells.size]!)) [(0,.int .u8 (b.toNat:Int))]=some #[.int .u8 (b.toNat:Int)]:=by
  have hr:∀f:Nat→Value,(Array.range (1 * 1)).map f= #[f 0]:=fun f=>Array.toList_inj.1 (by rw [Array.toList_map,Array.toList_range];rfl)
  rw [hr]
  simp [Instr.fill,Value.cells]
 have kk:Kept [] w (w.alloc (.cells #[.int .u8 (b.toNat:Int)] 5)):=(Kept.refl [] w).alloc _
 exact wp_buildSlice _ _ 1 _ ho #[.int .u8 (b.toNat:Int)] q _ a1n.1 hq hz (by rw [hs];omega) (by rw [hs];omega) (by rw [hs];exact(congrArg (Instr.fill _ _) hv).trans hf) (h _ _ kk (a4u (l:=[b]) (Blk.new w _ _) rfl))
def d5t(m1 m2 m3:List UInt8):Rel:=fun v w=>∃p1 p2 p3,Parts w v [(p1,m1),(p2,m2),(p3,m3)]
theorem d5t.a0q{m1 m2 m3:List UInt8}{v:Value}{w w':World}(h:d5t m1 m2 m3 v w)(k:Kept [] w w'):d5t m1 m2 m3 v w':=let⟨p1,p2,p3,hp⟩:=h;⟨p1,p2,p3,Parts.a0q hp k⟩
theorem b3r{x y z i j k:Nat}{m1 m2 m3:List UInt8}{oi oj ok:Oper}(ho:o.op= .buildSlice 94 3 #[(0,.tmp x),(1,.tmp y),(2,.tmp z)])
 (hi:vs[i]?=some (a4a m1)) (hl:l[i]?=some oi) (hd:oi.dst=some x) (hb:a1x o i) (hj:vs[j]?=some (a4a m2)) (hl2:l[j]?=some oj) (hd2:oj.dst=some y) (hb2:a1x o j) (hk:vs[k]?=some (a4a m3)) (hl3:l[k]?=some ok) (hd3:ok.dst=some z) (hb3:a1x o k):a4y Try.prog l vs (fun u=>Kept [] w0 u) a0 o (d5t m1 m2 m3):=by
 refine⟨fun _ _ _ h hk=>d5t.a0q h hk,fun a w C R hS hr _ h=>?_⟩
 have e:a4a m1 (a.tmps.getD x undef) w:=hr i _ x oi hi hl hd hb
 have e2:a4a m2 (a.tmps.getD y undef) w:=hr j _ y oj hj hl2 hd2 hb2
 have e3:a4a m3 (a.tmps.getD z undef) w:=hr k _ z ok hk hl3 hd3 hb3
 generalize hv1:a.tmps.getD x undef=v1 at e
 generalize hv2:a.tmps.getD y undef=v2 at e2
 generalize hv3:a.tmps.getD z undef=v3 at e3
 have c0:v1.cells= #[v1]:=by obtain⟨A,c,e1,_⟩:=id e;rw [e1];rfl
 have c1:v2.cells= #[v2]:=by obtain⟨A,c,e1,_⟩:=id e2;rw [e1];rfl
 have c2:v3.cells= #[v3]:=by obtain⟨A,c,e1,_⟩:=id e3;rw [e1];rfl
 obtain⟨q,hq,hz,hs,hb⟩:=info_parts a5b.2
 have hv:(#[(0,Operand.tmp x),(1,.tmp y),(2,.tmp z)].map fun(p:Nat × Operand)=>(p.1,a.eval p.2)).toList= [(0,v1),(1,v2),(2,v3)]:=by simp [Act.eval,←hv1,←hv2,←hv3]
 have hf:Instr.fill (fun i=>some (i * 1,1)) ((Array.range (3 * 1)).map ((Value.slice none 0 0).cells[· % (Value.slice none 0 0).cells.size]!)) [(0,v1),(1,v2),(2,v3)]=some #[v1,v2,v3]:=by
  have hr:∀f:Nat→Value,(Array.range (3 * 1)).map f= #[f 0,f 1,f 2]:=fun f=>Array.toList_inj.1 (by rw [Array.toList_map,Array.toList_range];rfl)
  rw [hr]
  simp [Instr.fill,c0,c1,c2]
 have kk:Kept [] w (w.alloc (.cells #[v1,v2,v3] 23)):=(Kept.refl [] w).alloc _
 exact wp_buildSlice _ _ 3 _ ho #[v1,v2,v3] q _ a5b.1 hq hz (by rw [hs];omega) (by rw [hs];omega) (by rw [hs];exact(congrArg (Instr.fill _ _) hv).trans hf) (h _ _ kk ⟨v1,v2,v3,c8f (Blk.new w _ _) (a4a.a0q e kk) (a4a.a0q e2 kk) (a4a.a0q e3 kk)⟩)
end
theorem b4y(xs:Array Value)(w:World):(callFunc 56 xs).run Try.prog w= .ok (.enter 56 xs) w:=enters_of (c:=_) Try.func56 (by kernel_rfl) rfl xs w
theorem b4t(xs:Array Value)(w:World):(callFunc 58 xs).run Try.prog w= .ok (.enter 58 xs) w:=enters_of (c:=_) Try.func58 (by kernel_rfl) rfl xs w
theorem c7a(xs:Array Value)(w:World):(callFunc 55 xs).run Try.prog w= .ok (.enter 55 xs) w:=enters_of (c:=_) Try.func55 (by kernel_rfl) rfl xs w
theorem c1k(xs:Array Value)(w:World):(callFunc 57 xs).run Try.prog w= .ok (.enter 57 xs) w:=enters_of (c:=_) Try.func57 (by kernel_rfl) rfl xs w
theorem d4z(n:Nat)(hn:n < 18446744073709551616)(u:World):Calls Try.prog 56 #[.slice none 0 0,.int .u64 (n:Int)] u fun e w'=>∃v',e= .returned v'∧a4a (be8 n) v' w'∧Kept [] u w':=by
 refine(b1b (.slice none 0 0) [] n u (Rd.nil _ _) (by simp) hn).mono ?_
 rintro e w' ⟨v',rfl,h⟩
 exact⟨v',rfl,h.rd,h.kept⟩
theorem d1z(n:Nat)(hn:n < 18446744073709551616)(u:World):Calls Try.prog 58 #[.int .u64 (n:Int)] u fun e w'=>∃v',e= .returned v'∧a4a (be8 n) v' w'∧Kept [] u w':=by
 refine(b3d n u hn).mono ?_
 rintro e w' ⟨v',rfl,h⟩
 exact⟨v',rfl,h.rd,h.kept⟩
theorem c0i{a:Act}{o:Oper}{x n c:Nat}{A:Option Addr}(ho:o.op= .call {callee:=.builtin .len,args:=#[.tmp x],argTypes:=#[38]})(W:World)(hx:a.tmps.getD x undef= .slice A n c):(execOp a.eval o).run Try.prog W= .ok (.value (.int .i64 (n:Int))) W:=by
 unfold execOp
 simp only [ho,resolve,invoke,builtin,Sem.run_bind,Sem.run_pure,Result.andThen_ok,List.map_toArray,List.map_cons,List.map_nil,Act.eval,hx]
 kernel_rfl
theorem c2w{a:Act}{o:Oper}{x n:Nat}(hn:n < 18446744073709551616)(ho:o.op= .convert 3 80 (.tmp x))(W:World)(hx:a.tmps.getD x undef= .int .i64 (n:Int)):(execOp a.eval o).run Try.prog W= .ok (.value (.int .u64 (n:Int))) W:=by
 have e:IntKind.u64.wrap (n:Int)=(n:Int):=by
  show(n:Int) % 18446744073709551616=_
  omega
 have h:(convert 3 80 (.int .i64 (n:Int))).run Try.prog W= .ok (.int .u64 (IntKind.u64.wrap (n:Int))) W:=by kernel_rfl
 rw [e]at h
 unfold execOp
 simp only [ho,Act.eval,hx,Sem.run_bind,h]
 rfl
section
variable {l:List Oper} {vs:List Rel} {a0:Act} {w0:World} {o:Oper}
theorem b8l{x g:Nat}{d:List UInt8}(ho:o.op= .slice 26 (.tmp x) none none none)(hx:a0.tmps.getD x undef= .pointer (some ⟨g,0,none⟩))(hf:∀y∈l,y.dst≠some x)(hr:a4a d (.slice (some ⟨g,0,none⟩) 32 32) w0):a4y Try.prog l vs (fun u=>Kept [] w0 u) a0 o (a4a d):=
 ⟨fun _ _ _ h hk=>a4a.a0q h hk,fun _ w _ _ hS _ hoth h=>a9e (a8p ho w ((hoth x hf).trans hx)) (h _ _ (Kept.refl _ _) (a4a.a0q hr hS))⟩
end
end Go.Proofs.Ytdbngnlpafcogaa
namespace Go.Proofs.Ytdbngnlpafcogaa
open Go.RowKit Go.Mem Go.Txt
def a2o(id:List UInt8)(ver:Int)(key sig:List UInt8):List Value:=bv id ++ (Value.int .i64 ver :: (bv key ++ bv sig))
abbrev b0x(id:List UInt8)(ver:Int)(key sig:List UInt8):Value:=.agg (a2o id ver key sig).toArray
structure UpL (id key sig:List UInt8):Prop where
 id:id.length=32
 key:key.length=32
 sig:sig.length=64
section
variable {u:World} {g:Nat} {id key sig:List UInt8} {ver:Int}
theorem a2w(L:UpL id key sig):(a2o id ver key sig).length=129:=by
 unfold a2o
 simp [L.id,L.key,L.sig]
theorem a5e(h:Blk u g 44 (a2o id ver key sig).toArray):u.rangeAt g 0 (bv id):=Blk.range (pre:=[]) h rfl
theorem a2j(L:UpL id key sig)(h:Blk u g 44 (a2o id ver key sig).toArray):u.cell? ⟨g,32,none⟩=some (.int .i64 ver):=by
 have hl:(bv id).length=32:=by simpa using L.id
 rw [h.cell,List.getElem?_toArray]
 unfold a2o
 rw [List.getElem?_append_right (by omega),hl]
 rfl
theorem a3g(L:UpL id key sig)(h:Blk u g 44 (a2o id ver key sig).toArray):u.rangeAt g 33 (bv key):=
 Blk.range (pre:=bv id ++ [.int .i64 ver]) (post:=bv sig) (by simpa [a2o]using h) (by simp [L.id])
theorem a3x(L:UpL id key sig)(h:Blk u g 44 (a2o id ver key sig).toArray):u.rangeAt g 65 (bv sig):=
 Blk.range (pre:=bv id ++ (.int .i64 ver :: bv key)) (post:=[]) (by simpa [a2o]using h) (by simp [L.id,L.key])
end
theorem a2e{P:Program}{u:World}{a:Act}{o:Oper}{t:TypeId}(x:Operand)(ho:o.op= .load t x)(hs:∀w,(isAgg t).run P w= .ok false w){p:Addr}(hx:a.eval x= .pointer (some p)){v:Value}(hc:u.cell? p=some v) :
 (execOp a.eval o).run P u= .ok (.value v) u:=by
 simp [execOp,ho,hx,Instr.loadAt,Instr.sureAddr,loadVar,hs,hc]
set_option maxHeartbeats 3200000 in
theorem d1b{id key sig:List UInt8}{ver:Int}{ok:Bool}(L:UpL id key sig)(h1:1≤ver)(h64:ver≤64)
 (cb:∀u,Calls Try.prog 54 #[.int .i64 ver,ab key] u fun e w'=>∃v',e= .returned v'∧a4a (a5a ver key) v' w'∧Kept [] u w')
 (co:∀u v,a4a (a5a ver key) v u→Calls Try.prog 16 #[ab id,.int .u8 1,v,ab sig] u fun e w'=>e= .returned (.bool ok)∧Kept [] u w') (w:World) :
 Calls Try.prog 53 #[b0x id ver key sig] w fun e w'=>e= .returned (.bool ok)∧Kept [] w w':=by
 replace cb:=hjd cb
 replace co:=hjd co
 replace L:=hjd L
 go_enter Try.func53,Try.ntmps53
 go_wp2_with (first
  | ((with_reducible refine a0l 1 ?_);(refine a0o (o:=⟨some 1,_,_,_,_,_⟩) (v:=b0x id ver key sig) rfl (.tmp 0) rfl rfl ?_);intro g1 w1 m1;have B1:=hjd (show Blk w1 g1 44 (a2o id ver key sig).toArray from m1.blk);have KK:=hjd m1.kept;clear m1))
 replace B1:=hjd (B1.out.kept (Kept.refl [] _).drew (by simp))
 replace KK:=hjd (KK.out.a0f (Kept.refl [] _).drew)
 have q1:=a2j L.out B1.out
 refine Txt.a1e [1,5,10,12,14,17] (fun u=>Blk u g1 44 (a2o id ver key sig).toArray) [[_,_,_,_,_,_,_,_,_,_,_,_,_,_,_,_],[_,_,_],[_,_]] (by kernel_rfl) (by kernel_rfl) rfl B1.out (Txt.a0e ?_)
 go_wp2_with (first
  | ((with_reducible refine a0l 13 ?_);refine a0r (o:=⟨some 13,_,_,_,_,_⟩) (cs:=bv id) a1o.row rfl (.tmp 12) rfl rfl (a5e B1.out) (by simpa using L.out.id) ?_)
  | ((with_reducible refine a0l 17 ?_);refine a0r (o:=⟨some 17,_,_,_,_,_⟩) (cs:=bv key) a1o.row rfl (.tmp 16) rfl rfl (a3g L.out B1.out) (by simpa using L.out.key) ?_)
  | (go_at_call 54;(with_reducible refine(cb.out _).mono ?_);rintro e v18 ⟨x18,rfl,h18,k18⟩
     have R18:=hjd h18
     obtain⟨NA,nc,rfl,_⟩:=h18
     replace KK:=hjd (KK.out.a0f k18)
     replace B1:=hjd (B1.out.kept k18 (by simp))
     clear k18))
 refine⟨rfl,B1.out,Txt.a0e ?_⟩
 go_wp2_with (first
  | ((with_reducible refine a0l 20 ?_);refine a0r (o:=⟨some 20,_,_,_,_,_⟩) (cs:=bv sig) Q.b1y rfl (.tmp 19) rfl rfl (a3x L.out B1.out) (by simpa using L.out.sig) ?_)
  | (go_at_call 16;(with_reducible refine(co.out _ _ R18.out).mono ?_);rintro e v21 ⟨rfl,k21⟩
     replace KK:=hjd (KK.out.a0f k21)
     replace B1:=hjd (B1.out.kept k21 (by simp))
     clear k21))
 refine⟨rfl,B1.out,Txt.a0e ?_⟩
 go_wp2_with fail
 refine⟨rfl,B1.out,Txt.a0x ⟨⟨by kernel_rfl,?_⟩,?_⟩⟩
 ·intro j hj o ho hw
  have hj2:j=1∨j=5∨j=10∨j=12∨j=14∨j=17:=by simpa using hj
  rcases hj2 with rfl | rfl | rfl | rfl | rfl | rfl <;> cases ho
  ·exact⟨4,rfl,fun u hu=>a2e (.tmp 3) rfl (fun w=>by kernel_rfl) rfl (a2j L.out hu)⟩
  ·exact⟨8,rfl,fun u hu=>a2e (.tmp 7) rfl (fun w=>by kernel_rfl) rfl (a2j L.out hu)⟩
  ·exact⟨13,rfl,fun u hu=>a1c a1o.row (.tmp 12) rfl rfl (a5e hu) (by simpa using L.out.id)⟩
  ·exact⟨15,rfl,fun u hu=>a2e (.tmp 14) rfl (fun w=>by kernel_rfl) rfl (a2j L.out hu)⟩
  ·exact⟨17,rfl,fun u hu=>a1c a1o.row (.tmp 16) rfl rfl (a3g L.out hu) (by simpa using L.out.key)⟩
  ·exact⟨20,rfl,fun u hu=>a1c Q.b1y (.tmp 19) rfl rfl (a3x L.out hu) (by simpa using L.out.sig)⟩
 go_wp2_with fail
 go_ret
 exact⟨rfl,KK.out⟩
end Go.Proofs.Ytdbngnlpafcogaa
namespace Go.Proofs.Ytdbngnlpafcogaa
open Go.RowKit Go.Mem Go.Txt
set_option maxHeartbeats 3200000 in
theorem c7k{id key sig:List UInt8}{ver:Int}(L:UpL id key sig)(ho:ver < 1∨64 < ver)(w:World) :
 Calls Try.prog 53 #[b0x id ver key sig] w fun e w'=>e= .returned (.bool false)∧Kept [] w w':=by
 replace L:=hjd L
 go_enter Try.func53,Try.ntmps53
 go_wp2_with (first
  | ((with_reducible refine a0l 1 ?_);(refine a0o (o:=⟨some 1,_,_,_,_,_⟩) (v:=b0x id ver key sig) rfl (.tmp 0) rfl rfl ?_);intro g1 w1 m1;have B1:=hjd (show Blk w1 g1 44 (a2o id ver key sig).toArray from m1.blk);have KK:=hjd m1.kept;clear m1))
 replace B1:=hjd (B1.out.kept (Kept.refl [] _).drew (by simp))
 replace KK:=hjd (KK.out.a0f (Kept.refl [] _).drew)
 have q1:=a2j L.out B1.out
 rcases ho with h1 | h64
 ·have n1:¬(1≤ver):=by omega
  clear h1
  refine Txt.a1e [1,5,10,12,14,17] (fun u=>Blk u g1 44 (a2o id ver key sig).toArray) [[_,_,_,_,_,_,_,_,_,_,_,_,_,_,_,_],[_,_,_],[_,_]] (by kernel_rfl) (by kernel_rfl) rfl B1.out (Txt.a0e ?_)
  go_wp2_with fail
  refine And.intro rfl (And.intro B1.out ?_)
  unfold Txt.a3r
  go_wp2_with fail
  refine And.intro rfl (And.intro B1.out ?_)
  unfold Txt.a3r
  go_wp2_with fail
  refine And.intro rfl (And.intro B1.out (Txt.a0x ⟨⟨by kernel_rfl,?_⟩,?_⟩))
  ·intro j hj o ho hw
   have hj2:j=1∨j=5∨j=10∨j=12∨j=14∨j=17:=by simpa using hj
   rcases hj2 with rfl | rfl | rfl | rfl | rfl | rfl <;> cases ho
   ·exact⟨4,rfl,fun u hu=>a2e (.tmp 3) rfl (fun w=>by kernel_rfl) rfl (a2j L.out hu)⟩
   all_goals exact absurd (hw:Region.wanted _ _=true) (by rw [show Region.wanted _ _=false from by kernel_rfl];simp)
  go_wp2_with fail
  go_ret
  exact⟨rfl,KK.out⟩
 ·have n1:1≤ver:=by omega
  have n2:¬(ver≤64):=by omega
  clear h64
  refine Txt.a1e [1,5,10,12,14,17] (fun u=>Blk u g1 44 (a2o id ver key sig).toArray) [[_,_,_,_,_,_,_,_,_,_,_,_,_,_,_,_],[_,_,_],[_,_]] (by kernel_rfl) (by kernel_rfl) rfl B1.out (Txt.a0e ?_)
  go_wp2_with fail
  refine And.intro rfl (And.intro B1.out ?_)
  unfold Txt.a3r
  go_wp2_with fail
  refine And.intro rfl (And.intro B1.out ?_)
  unfold Txt.a3r
  go_wp2_with fail
  refine And.intro rfl (And.intro B1.out (Txt.a0x ⟨⟨by kernel_rfl,?_⟩,?_⟩))
  ·intro j hj o ho hw
   have hj2:j=1∨j=5∨j=10∨j=12∨j=14∨j=17:=by simpa using hj
   rcases hj2 with rfl | rfl | rfl | rfl | rfl | rfl <;> cases ho
   ·exact⟨4,rfl,fun u hu=>a2e (.tmp 3) rfl (fun w=>by kernel_rfl) rfl (a2j L.out hu)⟩
   ·exact⟨8,rfl,fun u hu=>a2e (.tmp 7) rfl (fun w=>by kernel_rfl) rfl (a2j L.out hu)⟩
   all_goals exact absurd (hw:Region.wanted _ _=true) (by rw [show Region.wanted _ _=false from by kernel_rfl];simp)
  go_wp2_with fail
  go_ret
  exact⟨rfl,KK.out⟩
noncomputable def okU (id:List UInt8) (ver:Int) (key sig:List UInt8):Bool:=decide (1≤ver∧ver≤64) && okV id sig (a9j 1 (a5a ver key))
theorem b5u{id key sig:List UInt8}(ver:Int)(L:UpL id key sig)(w:World) :
 Calls Try.prog 53 #[b0x id ver key sig] w fun e w'=>e= .returned (.bool (okU id ver key sig))∧Kept [] w w':=by
 by_cases h:1≤ver∧ver≤64
 ·unfold okU
  rw [decide_eq_true h,Bool.true_and]
  exact d1b L h.1 h.2 (fun u=>b9h ver L.key u) (fun u v hv=>a9t (key:=id) 1 L.id L.sig v (a5a ver key) u hv (by rw [a9w L.key];decide)) w
 ·unfold okU
  rw [decide_eq_false h,Bool.false_and]
  exact c7k L (by omega) w
theorem b7n:RowT Try.prog 44 129:=⟨⟨_,Try.underlying44,rfl⟩,by kernel_rfl⟩
theorem a8r:(Try.prog.info? 44).map (·.zero)=some (some (b0x (a0j 32) 0 (a0j 32) (a0j 64))):=by kernel_rfl
theorem e1f(ver:Int)(p q r:Nat→UInt8):Try.prog.built 44 [(0,ab ((List.range 32).map p)),(1,.int .i64 ver),(2,ab ((List.range 32).map q)),(3,ab ((List.range 64).map r))]=some (a2o ((List.range 32).map p) ver ((List.range 32).map q) ((List.range 64).map r)).toArray:=by kernel_rfl
theorem b5p{n:Nat}{l:List UInt8}(h:l.length=n):l=(List.range n).map fun i=>l.getD i 0:=by
 apply List.ext_getElem (by simp [h])
 intro i h1 h2
 simp [List.getD_eq_getElem?_getD,h1]
theorem c8v{id key sig:List UInt8}(ver:Int)(L:UpL id key sig):Try.prog.built 44 [(0,ab id),(1,.int .i64 ver),(2,ab key),(3,ab sig)]=some (a2o id ver key sig).toArray:=by
 rw [b5p L.id,b5p L.key,b5p L.sig]
 exact e1f _ _ _ _
end Go.Proofs.Ytdbngnlpafcogaa
namespace Go.Proofs.Ytdbngnlpafcogaa
open Go.RowKit Go.Mem Go.Txt
theorem c1t{a:Act}{o:Oper}{u:World}{t:TypeId}{cs:Array Value}(i j k l:Nat)(x y x2 y2:Operand)(ho:o.op= .build t #[(i,x),(j,y),(k,x2),(l,y2)]){v q v2 q2:Value}(hx:a.eval x=v)(hy:a.eval y=q)(hx2:a.eval x2=v2)(hy2:a.eval y2=q2)(h:Try.prog.built t [(i,v),(j,q),(k,v2),(l,q2)]=some cs):(execOp a.eval o).run Try.prog u= .ok (.value (.agg cs)) u:=by
 unfold execOp
 simp only [ho,Sem.run_bind]
 rw [run_build u t (Array.map (fun x:Nat × Operand=>(x.fst,a.eval x.snd)) #[(i,x),(j,y),(k,x2),(l,y2)]) cs (by simp [hx,hy,hx2,hy2,h])]
 simp
theorem b4e{id key sig:List UInt8}{ver:Int}:(a2o id ver key sig).toArray.all (·.oneCell')=true:=by
 rw [Array.all_eq_true']
 intro x hx
 have hx2:x∈a2o id ver key sig:=by simpa using hx
 unfold a2o at hx2
 rcases List.mem_append.1 hx2 with h | h
 ·exact a2v _ _ h
 ·rcases List.mem_cons.1 h with rfl | h
  ·rfl
  ·rcases List.mem_append.1 h with h | h
   ·exact a2v _ _ h
   ·exact a2v _ _ h
set_option maxHeartbeats 3200000 in
theorem d0q{seed key K S:List UInt8}{ver:Int}(hs:seed.length=32)(L:UpL K key S)
 (cp:∀u,Calls Try.prog 11 #[ab seed] u fun e w'=>e= .returned (ab K)∧Kept [] u w')
 (cb:∀u,Calls Try.prog 54 #[.int .i64 ver,ab key] u fun e w'=>∃v',e= .returned v'∧a4a (a5a ver key) v' w'∧Kept [] u w')
 (cs:SeC seed S (a5a ver key) 1) (w:World) :
 Calls Try.prog 24 #[ab seed,.int .i64 ver,ab key] w fun e w'=>e= .returned (b0x K ver key S)∧Kept [] w w':=by
 have hb:=hjd (c8v ver L)
 have ho:=hjd (b4e (id:=K) (key:=key) (sig:=S) (ver:=ver))
 have hz:=hjd (a2w (ver:=0) (show UpL (a0j 32) (a0j 32) (a0j 64)from⟨rfl,rfl,rfl⟩))
 have hz2:=hjd (a2w (ver:=ver) L)
 replace cp:=hjd cp
 replace cb:=hjd cb
 replace cs:=hjd cs
 replace hs:=hjd hs
 replace L:=hjd L
 go_enter Try.func24,Try.ntmps24
 go_wp2_with (first
  | ((with_reducible refine a0l 3 ?_);(refine a0o (o:=⟨some 3,_,_,_,_,_⟩) (v:=ab seed) rfl (.tmp 0) rfl rfl ?_);intro g3 w3 m3;have B3:=hjd (show Blk w3 g3 26 (bv seed).toArray from m3.blk);have KK:=hjd m3.kept;clear m3)
  | ((with_reducible refine a0l 5 ?_);(refine a0o (o:=⟨some 5,_,_,_,_,_⟩) (v:=ab key) rfl (.tmp 2) rfl rfl ?_);intro g5 w5 m5;have B5:=hjd (show Blk w5 g5 26 (bv key).toArray from m5.blk);replace KK:=hjd (KK.out.a0f m5.kept);replace B3:=hjd (B3.out.kept m5.kept (by simp));clear m5)
  | ((with_reducible refine a0l 6 ?_);(refine a0g (o:=⟨some 6,_,_,_,_,_⟩) rfl rfl a8r ?_);intro g6 w6 m6;have B6:=hjd (show Blk w6 g6 44 (a2o (a0j 32) 0 (a0j 32) (a0j 64)).toArray from m6.blk);have L6:=hjd (Nat.le_trans KK.out.size m6.le);have N6:=hjd (show g3≠g6∧g5≠g6 from⟨m6.ne B3.out.lt,m6.ne B5.out.lt⟩);replace KK:=hjd (KK.out.a0f m6.kept);replace B3:=hjd (B3.out.kept m6.kept (by simp));replace B5:=hjd (B5.out.kept m6.kept (by simp));clear m6))
 have kd:=(Kept.refl [] w6).drew
 replace KK:=hjd (KK.out.a0f kd)
 replace B6:=hjd (B6.out.kept kd (by simp))
 have T:=hjd (show Blk w6.drew g3 26 (bv seed).toArray∧Blk w6.drew g5 26 (bv key).toArray from⟨B3.out.kept kd (by simp),B5.out.kept kd (by simp)⟩)
 clear kd B3 B5
 refine Txt.a1e [0,3,4,6,9] (fun u=>Blk u g3 26 (bv seed).toArray∧Blk u g5 26 (bv key).toArray) [[_,_],[_,_,_,_,_,_],[_],[_],[_],[]] (by kernel_rfl) (by kernel_rfl) rfl T.out (Txt.a0e ?_)
 iterate 4 (go_wp2_with (first
  | ((with_reducible refine a0l 7 ?_);refine a0d (cs:=(bv seed).toArray) (o:=⟨some 7,_,_,_,_,_⟩) a1o.row rfl (.tmp 3) rfl rfl T.out.1 (by simpa using hs.out) ?_)
  | ((with_reducible refine a0l 10 ?_);refine a0d (cs:=(bv key).toArray) (o:=⟨some 10,_,_,_,_,_⟩) a1o.row rfl (.tmp 5) rfl rfl T.out.2 (by simpa using L.out.key) ?_)
  | ((with_reducible refine a0l 11 ?_);refine a0d (cs:=(bv seed).toArray) (o:=⟨some 11,_,_,_,_,_⟩) a1o.row rfl (.tmp 3) rfl rfl T.out.1 (by simpa using hs.out) ?_)
  | ((with_reducible refine a0l 13 ?_);refine a0d (cs:=(bv key).toArray) (o:=⟨some 13,_,_,_,_,_⟩) a1o.row rfl (.tmp 5) rfl rfl T.out.2 (by simpa using L.out.key) ?_)
  | ((with_reducible refine a0l 16 ?_);refine c6w (o:=⟨some 16,_,_,_,_,_⟩) (v:=ab K) (u:=.int .i64 ver) (v2:=ab key) (u2:=ab S) rfl 0 1 2 3 (.tmp 8) (.tmp 9) (.tmp 10) (.tmp 15) rfl rfl rfl rfl rfl hb.out ?_)
  | (go_at_call 11;(with_reducible refine(cp.out _).mono ?_);rintro e v ⟨rfl,kk⟩;replace KK:=hjd (KK.out.a0f kk);replace T:=hjd (And.intro (T.out.1.kept kk (by simp)) (T.out.2.kept kk (by simp)));replace B6:=hjd (B6.out.kept kk (by simp));clear kk)
  | (go_at_call 54;(with_reducible refine(cb.out _).mono ?_);rintro e v ⟨x14,rfl,h14,kk⟩;have R14:=hjd h14;obtain⟨_,_,rfl,_⟩:=h14;replace KK:=hjd (KK.out.a0f kk);replace T:=hjd (And.intro (T.out.1.kept kk (by simp)) (T.out.2.kept kk (by simp)));replace B6:=hjd (B6.out.kept kk (by simp));clear kk)
  | (go_at_call 17;(with_reducible refine(cs.out _ _ R14.out).mono ?_);rintro e v ⟨rfl,kk⟩;replace KK:=hjd (KK.out.a0f kk);replace T:=hjd (And.intro (T.out.1.kept kk (by simp)) (T.out.2.kept kk (by simp)));replace B6:=hjd (B6.out.kept kk (by simp));clear kk R14));refine⟨rfl,T.out,Txt.a0e ?_⟩)
 go_wp2_with (((refine a0b (cs:=(a2o K ver key S).toArray) (o:=⟨none,Op.store 44 (.tmp 6) (.tmp 16),_,_,_,_⟩) b7n rfl (.tmp 6) (.tmp 16) rfl rfl rfl B6.out (List.size_toArray.trans hz.out) (List.size_toArray.trans hz2.out) ho.out ?_);intro w7 b7 k7))
 have T2:=And.intro (T.out.1.kept k7 (by simpa using N6.out.1)) (T.out.2.kept k7 (by simpa using N6.out.2))
 refine⟨rfl,T2,Txt.a0e ?_⟩
 refine⟨rfl,T2,Txt.a0x ⟨⟨by kernel_rfl,?_⟩,?_⟩⟩
 ·intro j hj o hj1 hw
  have hj2:j=0∨j=3∨j=4∨j=6∨j=9:=by simpa using hj
  rcases hj2 with rfl | rfl | rfl | rfl | rfl <;> cases hj1
  ·exact⟨7,rfl,fun u hu=>a1a a1o.row (.tmp 3) rfl rfl hu.1 (by simpa using hs.out)⟩
  ·exact⟨10,rfl,fun u hu=>a1a a1o.row (.tmp 5) rfl rfl hu.2 (by simpa using L.out.key)⟩
  ·exact⟨11,rfl,fun u hu=>a1a a1o.row (.tmp 3) rfl rfl hu.1 (by simpa using hs.out)⟩
  ·exact⟨13,rfl,fun u hu=>a1a a1o.row (.tmp 5) rfl rfl hu.2 (by simpa using L.out.key)⟩
  ·exact⟨16,rfl,fun u hu=>c1t 0 1 2 3 (.tmp 8) (.tmp 9) (.tmp 10) (.tmp 15) rfl rfl rfl rfl rfl hb.out⟩
 go_wp2_with fail
 exact a1i b7n rfl rfl b7 (List.size_toArray.trans hz2.out) rfl ⟨rfl,KK.out.a0p k7 L6.out⟩
end Go.Proofs.Ytdbngnlpafcogaa
namespace Go.Proofs.Ytdbngnlpafcogaa
open Go.RowKit Go.Mem Go.Txt
theorem b6e:Value.agg #[.int .u8 0,.int .u8 0,.int .u8 0,.int .u8 0,.int .u8 0,.int .u8 0,.int .u8 0,.int .u8 0,.int .u8 0,.int .u8 0,.int .u8 0,.int .u8 0,.int .u8 0,.int .u8 0,.int .u8 0,.int .u8 0,.int .u8 0,.int .u8 0,.int .u8 0,.int .u8 0,.int .u8 0,.int .u8 0,.int .u8 0,.int .u8 0,.int .u8 0,.int .u8 0,.int .u8 0,.int .u8 0,.int .u8 0,.int .u8 0,.int .u8 0,.int .u8 0]=ab (a0j 32):=rfl
end Go.Proofs.Ytdbngnlpafcogaa
namespace Go.Proofs.Ytdbngnlpafcogaa
open Go.RowKit Go.Mem Go.Txt
def pzS(n:Nat):Nat:=(119 - n % 64) % 64
def pad(m:List UInt8):List UInt8:=(m ++ 128 :: List.replicate (pzS m.length) 0) ++ be8 (8 * m.length)
theorem c6g(n:Nat):pzS n < 64:=Nat.mod_lt _ (by decide)
theorem c2i{n j:Nat}(h:j≤pzS n):((n + 1 + j + 8) % 64=0)↔j=pzS n:=by unfold pzS at *;omega
theorem b6j(m:List UInt8):(pad m).length % 64=0:=by
 unfold pad
 rw [List.length_append,List.length_append,List.length_cons,List.length_replicate,a2k]
 unfold pzS;omega
set_option maxHeartbeats 1600000 in
theorem b1d(pv:Value)(ps:List (Value × List UInt8))(w:World)(hp:Parts w pv ps)(hn:ps.length≤9223372036854775807)(hl:(a0w ps).length≤1000000000000) :
 Calls Try.prog 93 #[pv,.int .i64 64] w fun e w'=>∃v',e= .returned v'∧New w w' v' (pad (a0w ps)):=by
 have cc:=hjd (b0y pv ps w hp hn (by omega))
 clear hp
 generalize a0w ps=m at *
 go_enter Try.func93,Try.ntmps93
 go_wp2_with (first
  | (go_at_call 86;(with_reducible refine(cc.out).mono ?_);rintro e w1 ⟨ov,rfl,h⟩
     obtain⟨A,c,rfl,_⟩:=h.ow.shape
     have H:=hjd h
     clear h)
  | ((with_reducible refine a0l 14 ?_);(refine a1m (o:=⟨some 14,_,_,_,_,_⟩) (v0:=.int .u8 128) (cells:=(bv [128]).toArray) rfl a1n rfl rfl (by decide) rfl rfl ?_);intro g7 w7 m7
     have b7:=hjd (show Rd w7 1 (.slice (some ⟨g7,0,none⟩) 1 1) 1 (bv [128])from⟨_,_,rfl,rfl,by omega,fun _=>⟨g7,0,rfl,fun j u hu=>by rw [m7.blk.cell];simpa using hu⟩⟩)
     have k7:=hjd m7.kept
     clear m7)
  | (at_builtin
     refine a2l (n:=m.length) (m:=1) a1n rfl (.tmp 13) (.tmp 14) rfl rfl (H.out.ow.a0q k7.out) rfl b7.out (a2v _) (by omega) (by omega) ?_
     intro v' w9 o9 k9 f9
     obtain⟨A2,c2,hv',hlc'⟩:=o9.shape
     subst hv'
     replace H:=hjd (H.out.c7o k7.out o9 k9 f9)
     clear o9 k9 f9 k7 b7))
 have hl2:=hjd hl
 go_loopg [5] (pzS m.length) (fun fu o wk=>∃(j:Nat) (A:Option Addr) (c:Nat),j≤pzS m.length∧fu + j=pzS m.length∧o= .slice A (m.length + 1 + j) c∧Hid (New w wk (.slice A (m.length + 1 + j) c) (m ++ 128 :: List.replicate j 0)))
 case atStart=>exact⟨0,A2,c2,by omega,by omega,rfl,H⟩
 case round=>
  clear H
  obtain⟨j,A,c,hj,hfu,rfl,H⟩:=hrel
  have hz:=c6g m.length
  by_cases hlt:j < pzS m.length
  ·have hne:¬(m.length + 1 + j + 8) % 64=0:=fun e=>by have:=(c2i hj).1 e;omega
   generalize hL:m.length + 1 + j=L at *
   have hne1:(((L:Int) + 8) % 64=0)=False:=eq_false (by omega)
   have hne2:(((L:Int) + 8).tmod 64=0)=False:=eq_false (by rw [Int.tmod_eq_emod_of_nonneg (by omega)];omega)
   have hLs:L≤1000000000100:=by omega
   go_wp2_with (first
    | ((with_reducible refine a0l 25 ?_);(refine a1m (o:=⟨some 25,_,_,_,_,_⟩) (v0:=.int .u8 0) (cells:=(bv [0]).toArray) rfl a1n rfl rfl (by decide) rfl rfl ?_);intro g7 w7 m7
       have b7:=hjd (show Rd w7 1 (.slice (some ⟨g7,0,none⟩) 1 1) 1 (bv [0])from⟨_,_,rfl,rfl,by omega,fun _=>⟨g7,0,rfl,fun j u hu=>by rw [m7.blk.cell];simpa using hu⟩⟩)
       have k7:=hjd m7.kept
       clear m7)
    | (at_builtin
       refine a2l (n:=L) (m:=1) a1n rfl (.tmp 24) (.tmp 25) rfl rfl (by have:=H.out.ow.a0q k7.out;have e:(m ++ 128 :: List.replicate j 0).length=L:=(by simp;omega);rw [e]at this;exact this) rfl b7.out (a2v _) (by omega) (by omega) ?_
       intro v' w9 o9 k9 f9
       have e:(m ++ 128 :: List.replicate j 0).length=L:=by simp;omega
       obtain⟨A3,c3,hv',hlc'⟩:=o9.shape
       subst hv'
       replace H:=hjd (H.out.c7o k7.out (by rw [e];exact o9) k9 f9)
       clear o9 k9 f9 k7 b7 e))
   go_roundg (pzS m.length - (j + 1))
   case measure=>omega
   case rel=>
    have e:m ++ 128 :: List.replicate (j + 1) 0=(m ++ 128 :: List.replicate j 0) ++ [0]:=by simp [List.replicate_succ']
    refine⟨j + 1,A3,c3,by omega,by omega,by rw [←hL];rfl,?_⟩
    rw [e,show m.length + 1 + (j + 1)=L + 1 from by omega]
    exact H
  ·obtain rfl:j=pzS m.length:=by omega
   have heq:=(c2i hj).2 rfl
   generalize hL:m.length + 1 + pzS m.length=L at *
   have heq1:(((L:Int) + 8) % 64=0):=by omega
   have heq2:(((L:Int) + 8).tmod 64=0):=by rw [Int.tmod_eq_emod_of_nonneg (by omega)];omega
   have hLs:L≤1000000000100:=by omega
   have e:(m ++ 128 :: List.replicate (pzS m.length) 0).length=L:=by simp;omega
   have ep:pad m=(m ++ 128 :: List.replicate (pzS m.length) 0) ++ be8 (8 * m.length):=rfl
   replace ep:=hjd ep
   generalize m ++ 128 :: List.replicate (pzS m.length) 0=M0 at *
   have q8:IntKind.u64.wrap (8 * (m.length:Int))=((8 * m.length:Nat):Int):=by rw [IntKind.wrap_u64];omega
   generalize 8 * m.length=q at *
   subst e
   go_wp2_with (first
    | (at_builtin
       refine a7p a1n rfl rfl Try.underlying3 rfl (.tmp 27) (.tmp 30) rfl rfl H.out.ow 0 rfl (by omega) (by omega) ?_
       intro v' w9 o9 k9 f9
       obtain⟨A2,c2,hv',hlc'⟩:=o9.shape
       subst hv'
       replace H:=hjd (show New w w9 (.slice A2 M0.length c2) M0 from H.out.step (by simpa using o9) k9 H.out.old (by
        rcases f9 with e | e
        ·exact .inl e
        ·exact .inr ⟨_,e,H.out.kept.size⟩))
       clear o9 k9 f9))
   clear heq1 heq2 heq
   go_loopg [5,7] 8 (fun fu o i wk=>∃(j:Nat) (A:Option Addr) (c:Nat),j≤8∧fu + j=8∧i= .int .i64 (56 - 8 * (j:Int))∧o= .slice A (M0.length + j) c∧Hid (New w wk (.slice A (M0.length + j) c) (M0 ++ (be8 q).take j)))
   case atStart=>exact⟨0,A2,c2,by omega,by omega,rfl,rfl,by simpa using H⟩
   case round=>
    clear H
    obtain⟨j,A,c,hj8,hfu8,rfl,rfl,H⟩:=hrel
    have el:(M0 ++ (be8 q).take j).length=M0.length + j:=by rw [List.length_append,List.length_take,a2k];omega
    by_cases hlt8:j < 8
    ·have h0:(0:Int)≤56 - 8 * (j:Int):=by omega
     have hb8:=b6z q j hlt8
     have hbt:=b7j q j hlt8
     generalize UInt8.ofNat (q / 256 ^ (7 - j))=x at *
     replace hbt:=hjd hbt
     replace el:=hjd el
     have hb9:=hjd hb8
     clear hb8
     go_wp2_with (first
      | ((with_reducible refine a0l 43 ?_);(refine a1m (o:=⟨some 43,_,_,_,_,_⟩) (v0:=a1p x) (cells:=(bv [x]).toArray) rfl a1n rfl hb9.out (by decide) rfl rfl ?_);intro g7 w7 m7
         have b7:=hjd (show Rd w7 1 (.slice (some ⟨g7,0,none⟩) 1 1) 1 (bv [x])from⟨_,_,rfl,rfl,by omega,fun _=>⟨g7,0,rfl,fun j u hu=>by rw [m7.blk.cell];simpa using hu⟩⟩)
         have k7:=hjd m7.kept
         clear m7)
      | (at_builtin
         refine a2l (n:=M0.length + j) (m:=1) a1n rfl (.tmp 36) (.tmp 43) rfl rfl (by have:=H.out.ow.a0q k7.out;rw [el.out]at this;exact this) rfl b7.out (a2v _) (by omega) (by omega) ?_
         intro v' w9 o9 k9 f9
         obtain⟨A3,c3,hv',hlc'⟩:=o9.shape
         subst hv'
         replace H:=hjd (H.out.c7o k7.out (by rw [el.out];exact o9) k9 f9)
         clear o9 k9 f9 k7 b7))
     go_roundg (8 - (j + 1))
     case measure=>omega
     case rel=>
      refine⟨j + 1,A3,c3,by omega,by omega,by go_num,rfl,?_⟩
      rw [hbt.out,←List.append_assoc]
      exact H
    ·obtain rfl:j=8:=by omega
     have et:(be8 q).take 8=be8 q:=List.take_of_length_le (by rw [a2k];omega)
     rw [et]at H
     clear el et
     go_wp2_with fail
     go_ret
     rw [ep.out]
     exact⟨_,rfl,H.out⟩
end Go.Proofs.Ytdbngnlpafcogaa
namespace Go.Proofs.Ytdbngnlpafcogaa
open Go.RowKit Go.Mem Go.Txt
abbrev W32(x:BitVec 32):Value:=.int .u32 (x.toNat:Int)
theorem ofInt32(x:BitVec 32):BitVec.ofInt 32 (x.toNat:Int)=x:=by
 apply BitVec.eq_of_toNat_eq
 rw [BitVec.toNat_ofInt]
 have:=x.isLt
 omega
theorem b7f(x:BitVec 32):IntKind.u32.wrap (x.toNat:Int)=x.toNat:=by
 have:=x.isLt
 rw [IntKind.wrap_u32];omega
theorem b4o(x y:BitVec 32):bits .xor .u32 (x.toNat:Int) (y.toNat:Int)=((x ^^^ y).toNat:Nat):=by
 show IntKind.u32.wrap (((BitVec.ofInt 32 (x.toNat:Int)) ^^^ (BitVec.ofInt 32 (y.toNat:Int))).toNat:Nat)=_
 rw [ofInt32,ofInt32,b7f]
theorem c8w(x y:BitVec 32):bits .and .u32 (x.toNat:Int) (y.toNat:Int)=((x &&& y).toNat:Nat):=by
 show IntKind.u32.wrap (((BitVec.ofInt 32 (x.toNat:Int)) &&& (BitVec.ofInt 32 (y.toNat:Int))).toNat:Nat)=_
 rw [ofInt32,ofInt32,b7f]
theorem bor(x y:BitVec 32):bits .or .u32 (x.toNat:Int) (y.toNat:Int)=((x ||| y).toNat:Nat):=by
 show IntKind.u32.wrap (((BitVec.ofInt 32 (x.toNat:Int)) ||| (BitVec.ofInt 32 (y.toNat:Int))).toNat:Nat)=_
 rw [ofInt32,ofInt32,b7f]
theorem c2g(x y:BitVec 32):IntKind.u32.wrap ((x.toNat:Int) + (y.toNat:Int))=((x + y).toNat:Nat):=by
 rw [IntKind.wrap_u32,BitVec.toNat_add];omega
theorem bnot(x:BitVec 32):bits .xor .u32 4294967295 (x.toNat:Int)=((~~~x).toNat:Nat):=by
 have e:BitVec.ofInt 32 4294967295=BitVec.allOnes 32:=by decide
 show IntKind.u32.wrap (((BitVec.ofInt 32 4294967295) ^^^ (BitVec.ofInt 32 (x.toNat:Int))).toNat:Nat)=_
 rw [ofInt32,e,BitVec.allOnes_xor,b7f]
theorem e2m(x:BitVec 32)(s:Nat):(x.toNat:Int) * 2 ^ s % 4294967296=((x <<< s).toNat:Nat):=by
 rw [BitVec.toNat_shiftLeft,Nat.shiftLeft_eq]
 have h:((2:Int) ^ s)=((2 ^ s:Nat):Int):=by norm_cast
 rw [h]
 generalize 2 ^ s=q
 show(x.toNat:Int) * (q:Int) % ((4294967296:Nat):Int)=((x.toNat * q % 4294967296:Nat):Int)
 rw [Int.natCast_emod,Int.natCast_mul]
theorem d6u(x:BitVec 32)(s:Nat):(x.toNat:Int) / 2 ^ s=((x >>> s).toNat:Nat):=by
 rw [BitVec.toNat_ushiftRight,Nat.shiftRight_eq_div_pow]
 have h:((2:Int) ^ s)=((2 ^ s:Nat):Int):=by norm_cast
 rw [h]
 norm_cast
theorem a2s(x:BitVec 32)(k:Int)(s:Nat)(hs:bits .and .u64 (IntKind.u64.wrap k) 31=s)(h31:s≤31)(w:World) :
 Calls Try.prog 94 #[W32 x,.int .i64 k] w fun e w'=>e= .returned (W32 (x <<< s ||| x >>> (32 - s)))∧Kept [] w w':=by
 have K:=hjd (Kept.refl [] w)
 have h1:(32:Int) - s=((32 - s:Nat):Int):=by omega
 have h2:IntKind.u64.wrap ((32 - s:Nat):Int)=((32 - s:Nat):Int):=by rw [IntKind.wrap_u64];omega
 have h3:∀t:Nat,((t:Int)).toNat=t:=fun t=>rfl
 go_enter Try.func94,Try.ntmps94
 go_wp2_with fail
 go_ret
 refine⟨?_,K.out⟩
 show Ending.returned (.int .u32 (bits .or .u32 ((x.toNat:Int) * 2 ^ s % 4294967296) ((x.toNat:Int) / 2 ^ (32 - s))))=_
 rw [e2m,d6u,bor]
end Go.Proofs.Ytdbngnlpafcogaa
namespace Go.Proofs.Ytdbngnlpafcogaa
open Go.RowKit Go.Mem Go.Txt
abbrev B32:=BitVec 32
def rl(x:B32)(s:Nat):B32:=x <<< s ||| x >>> (32 - s)
def ls0(x:B32):B32:=(rl x 25 ^^^ rl x 14) ^^^ x >>> 3
def ls1(y:B32):B32:=(rl y 15 ^^^ rl y 13) ^^^ y >>> 10
def us0(a:B32):B32:=(rl a 30 ^^^ rl a 19) ^^^ rl a 10
def us1(e:B32):B32:=(rl e 26 ^^^ rl e 21) ^^^ rl e 7
def chB(e f g:B32):B32:=(e &&& f) ^^^ (~~~e &&& g)
def mjB(a b c:B32):B32:=((a &&& b) ^^^ (a &&& c)) ^^^ (b &&& c)
def d3r(p:Nat→UInt8)(t:Nat):B32:=((BitVec.ofNat 32 (p (4 * t)).toNat <<< 24 ||| BitVec.ofNat 32 (p (4 * t + 1)).toNat <<< 16) ||| BitVec.ofNat 32 (p (4 * t + 2)).toNat <<< 8) ||| BitVec.ofNat 32 (p (4 * t + 3)).toNat
def sch(p:Nat→UInt8)(t:Nat):B32:=
 if _h:t < 16 then d3r p t else ls1 (sch p (t - 2)) + sch p (t - 7) + ls0 (sch p (t - 15)) + sch p (t - 16)
termination_by t
decreasing_by all_goals omega
theorem c0g(p:Nat→UInt8){t:Nat}(h:t < 16):sch p t=d3r p t:=by rw [sch,dif_pos h]
theorem c0h(p:Nat→UInt8){t:Nat}(h:¬t < 16):sch p t=ls1 (sch p (t - 2)) + sch p (t - 7) + ls0 (sch p (t - 15)) + sch p (t - 16):=by rw [sch,dif_neg h]
def b2x(n:Nat):B32:=BitVec.ofNat 32 (n / 4294967296)
def rnd(k m:B32)(v:Nat→B32):Nat→B32
 | 0=>v 7 + us1 (v 4) + chB (v 4) (v 5) (v 6) + k + m + (us0 (v 0) + mjB (v 0) (v 1) (v 2))
 | 4=>v 3 + (v 7 + us1 (v 4) + chB (v 4) (v 5) (v 6) + k + m)
 | i + 1=>v i
def a4m(p:Nat→UInt8)(h:Nat→B32):Nat→Nat→B32
 | 0=>h
 | t + 1=>rnd (b2x (a1s.getD t 0)) (sch p t) (a4m p h t)
def blk(p:Nat→UInt8)(h:Nat→B32):Nat→B32:=fun i=>h i + a4m p h 64 i
def a4t(b:List UInt8):Nat→Nat→B32
 | 0=>fun i=>b2x (a3d.getD i 0)
 | n + 1=>blk (fun j=>b.getD (64 * n + j) 0) (a4t b n)
def b9b(h:Nat→B32):List UInt8:=(List.range 32).map fun j=>UInt8.ofNat ((h (j / 4)).toNat / 2 ^ (24 - 8 * (j % 4)))
def sha(m:List UInt8):List UInt8:=b9b (a4t (pad m) ((pad m).length / 64))
theorem a3e(m:List UInt8):(sha m).length=32:=by simp [sha,b9b]
theorem ch_or(e f g:B32):(e &&& f) ||| (~~~e &&& g)=chB e f g:=by
 unfold chB
 apply BitVec.eq_of_getLsbD_eq
 intro i hi
 simp only [BitVec.getLsbD_or,BitVec.getLsbD_and,BitVec.getLsbD_xor,BitVec.getLsbD_not,hi,decide_true,Bool.true_and]
 cases e.getLsbD i <;> cases f.getLsbD i <;> cases g.getLsbD i <;> rfl
theorem mj_or(a b c:B32):((a &&& b) ||| (a &&& c)) ||| (b &&& c)=mjB a b c:=by
 unfold mjB
 apply BitVec.eq_of_getLsbD_eq
 intro i _
 simp only [BitVec.getLsbD_or,BitVec.getLsbD_and,BitVec.getLsbD_xor]
 cases a.getLsbD i <;> cases b.getLsbD i <;> cases c.getLsbD i <;> rfl
end Go.Proofs.Ytdbngnlpafcogaa
