/-
  Batches of updates: the document's bytes.
  The wire: numbers are read (for programs with fewer functions).
  The wire: counts, bytes and ends are read (for programs with fewer functions).
  The wire: the document's tape.
  The wire: arrays of bytes are read.
  The wire: the document's tape: the other calls.
  Batches of updates: what bytes are read as (plain).
  A part of a block is overwritten.
-/
import Derived.Test.YtdbngnlpafcogaaGreatZcJ04
import Derived.Test.YtdbngnlpafcogaaGreatZcJ03
import Derived.Test.YtdbngnlpafcogaaGreatZcJ02
import Derived.Laws.Bits64b
import Derived.Test.YtdbngnlpafcogaaGreatZcText
import Derived.Deep.QuietTactic
import Derived.BigQuiet
import Derived.Test.YtdbngnlpafcogaaGreatZcFam
set_option maxRecDepth 100000
namespace Go.Proofs.YtdbngnlpafcogaaGreat
open Go.RowKit Go.Mem Go.Txt
theorem d7k{w:World}{g o n:Nat}{xs:List UInt8}(h:w.rangeAt g o (bv xs))(hn:xs.length=n):Rd w 1 (.slice (some ⟨g,o,none⟩) n n) n (bv xs):=
 ⟨_,_,rfl,by simp [hn],by simp,fun _=>⟨g,o,rfl,fun j u hu=>h j u hu⟩⟩
theorem c5y(v:Int):IntKind.u64.wrap v=((b8l v:Nat):Int):=by
 show v % 18446744073709551616=_;unfold b8l;omega
end Go.Proofs.YtdbngnlpafcogaaGreat
namespace Go.Proofs.YtdbngnlpafcogaaGreat
open Go.RowKit Go.Mem
def beV(l:List UInt8):Nat:=l.foldl (fun a b=>a * 256 + b.toNat) 0
theorem c7a(l:List UInt8)(b:UInt8):beV (l ++ [b])=beV l * 256 + b.toNat:=by simp [beV]
theorem d1q:∀(l:List UInt8) (a:Nat),l.foldl (fun a b=>a * 256 + b.toNat) a < (a + 1) * 256 ^ l.length
 | [],a=>by simp
 | b :: l,a=>by
   have h:=d1q l (a * 256 + b.toNat);have hb:=b.toNat_lt;have h2:(a * 256 + b.toNat + 1) * 256 ^ l.length≤((a + 1) * 256) * 256 ^ l.length:=Nat.mul_le_mul_right _ (by omega);simp only [List.foldl_cons,List.length_cons,Nat.pow_succ];rw [Nat.mul_comm (256 ^ l.length) 256,←Nat.mul_assoc];omega
theorem d1s(l:List UInt8):beV l < 256 ^ l.length:=by have:=d1q l 0;simpa [beV]using this
theorem or_be(V b:Nat)(hV:V < 72057594037927936)(hb:b < 256):bits .or .u64 (IntKind.u64.wrap ((V:Int) * 256)) (IntKind.u64.wrap (b:Int))=((V * 256 + b:Nat):Int):=by
 have e1:IntKind.u64.wrap ((V:Int) * 256)=((V * 256:Nat):Int):=by rw [IntKind.wrap_u64];omega
 have e2:IntKind.u64.wrap (b:Int)=(b:Int):=by rw [IntKind.wrap_u64];omega
 rw [e1,e2,bits_or_u64_nat _ _ (by omega) (by omega)];have:=Nat.two_pow_add_eq_or_of_lt (i:=8) (b:=b) hb V;have e3:256 * V ||| b=256 * V + b:=by simpa using this.symm
 rw [Nat.mul_comm V 256,e3]
theorem e1k(xs:List UInt8)(k:Nat)(h:k < xs.length)(h8:xs.length≤8):bits .or .u64 (IntKind.u64.wrap ((beV (xs.take k):Int) * 256)) (IntKind.u64.wrap (xs[k].toNat:Int))=(beV (xs.take (k + 1)):Int):=by
 have hl:=d1s (xs.take k);have:256 ^ (xs.take k).length≤256 ^ 7:=Nat.pow_le_pow_right (by omega) (by rw [List.length_take];omega);rw [or_be _ _ (by omega) (by have:=xs[k].toNat_lt;omega),List.take_succ_eq_append_getElem h,c7a]
abbrev St:=Int × List UInt8
def a2z(n:Nat)(s:St):List UInt8 × St:=
 if s.1=0 then(if n≤s.2.length then(s.2.take n,(0,s.2.drop n))else([],(10,s.2)))else([],s)
def a9r(s:St):Nat × St:=(beV (a2z 8 s).1,(a2z 8 s).2)
def a4l(most:Nat)(s:St):Nat × St:=if most < (a9r s).1 then(0,(12,(a9r s).2.2))else a9r s
def a2a(s:St):List UInt8 × St:=a2z (a4l 1048576 s).1 (a4l 1048576 s).2
def a8t(s:St):Int:=if s.1=0 then(if 0 < s.2.length then 11 else 0)else s.1
theorem a4q(n:Nat)(s:St):(a2z n s).1.length≤n:=by unfold a2z;split <;> (try split) <;> simp <;> omega
theorem b6j(s:St):(a9r s).1 < 18446744073709551616:=by
 have h:=d1s (a2z 8 s).1;have h2:=a4q 8 s;have:256 ^ (a2z 8 s).1.length≤256 ^ 8:=Nat.pow_le_pow_right (by omega) h2;unfold a9r;simp only;omega
def a7n(w:World)(r:Nat)(s:St):Prop:=∃v,Blk w r 188 #[v,.int .i64 s.1]∧Ow w 5 1 v s.2.length (bv s.2)
theorem a7n.lt{w:World}{r:Nat}{s:St}(h:a7n w r s):r < w.heap.size:=by obtain⟨v,h,_⟩:=h;exact h.lt
theorem b4q(r n:Nat)(s:St)(w:World)(h:a7n w r s)(_:n≤9223372036854775807) :
 Calls Tryz.prog 138 #[.pointer (some ⟨r,0,none⟩),.int .i64 n] w fun e w'=>∃x,e= .returned x∧Rd w' 1 x (a2z n s).1.length (bv (a2z n s).1)∧a7n w' r (a2z n s).2∧Kept [r] w w':=by
 obtain⟨bad,bs⟩:=s;obtain⟨v,hb,ho⟩:=h;have c0:=hb.cell 0;have c1:=hb.cell 1;simp at c0 c1;have hf:=hb.frozen 0;have hf1:=hb.frozen 1;have hne:=ho.a2r hb (by decide)
 dsimp only at ho
 by_cases h0:bad=0
 ·subst h0;obtain⟨A,c,rfl,hc⟩:=ho.shape;by_cases hl:n≤bs.length
  ·obtain⟨X,dx,hX,oX⟩:=ow_to3 a1x ho .i64 n hl;obtain⟨Y,dy,hY,oY⟩:=e6u a1x ho .i64 n hl;have hx:=oX.a2r hb (by decide);have hy:=oY.a2r hb (by decide);have hb2:=hjd hb;have oX2:=hjd oX;have oY2:=hjd oY;clear hb ho oX oY hc;go_enter Tryz.func138,Tryz.ntmps138;go_wp2_with fail;go_ret;have e:a2z n (0,bs)=(bs.take n,(0,bs.drop n)):=by simp [a2z,hl]
   have e1:(bs.take n).length=n:=by rw [List.length_take];omega
   have e2:(bs.drop n).length=bs.length - n:=by rw [List.length_drop]
   rw [e];refine⟨_,rfl,?_,⟨_,by simpa using hb2.out.b3i 0 _,?_⟩,(Kept.refl _ w).setCell (.inl (by simp)) _⟩
   ·have:=Rd.a6w (oX2.out.setCell (p:=⟨r,0,none⟩) hx (.slice Y (bs.length - n) dy));simpa [bv,e1]using this
   ·have:=oY2.out.setCell (p:=⟨r,0,none⟩) hy (.slice Y (bs.length - n) dy);simpa [bv,e2]using this
  ·have hb2:=hjd hb;have ho2:=hjd ho;clear hb ho hc;go_enter Tryz.func138,Tryz.ntmps138;go_wp2_with fail;go_ret;have e:a2z n (0,bs)=([],(10,bs)):=by simp [a2z];omega
   rw [e];exact⟨_,rfl,Rd.nil _ _,⟨_,by simpa using hb2.out.b3i 1 _,by simpa using ho2.out.setCell (p:=⟨r,1,none⟩) hne _⟩,(Kept.refl _ w).setCell (.inl (by simp)) _⟩
 ·have hb2:=hjd hb;have ho2:=hjd ho;clear hb ho;go_enter Tryz.func138,Tryz.ntmps138;go_wp2_with fail;go_ret;have e:a2z n (bad,bs)=([],(bad,bs)):=by simp [a2z,h0]
  rw [e];exact⟨_,rfl,Rd.nil _ _,⟨_,hb2.out,ho2.out⟩,Kept.refl _ _⟩
theorem b0v(r:Nat)(s:St)(w:World)(h:a7n w r s) :
 Calls Tryz.prog 72 #[.pointer (some ⟨r,0,none⟩)] w fun e w'=>e= .returned (.int .u64 (a9r s).1)∧a7n w' r (a9r s).2∧Kept [r] w w':=by
 have H:=b4q r 8 s w h (by omega);have hl8:=a4q 8 s;unfold a9r;generalize a2z 8 s=q at *;obtain⟨xs,s2⟩:=q
 dsimp only at H hl8 ⊢
 have H2:=hjd H;clear h H;go_enter Tryz.func72,Tryz.ntmps72;go_wp2_with (go_at_call 138;refine H2.out.mono ?_;rintro e w1 ⟨x,rfl,hx,hr,hk⟩;obtain⟨XA,xc,rfl,hxl,_,hxc⟩:=hx);have hr2:=hjd hr;have hk2:=hjd hk;clear hr hk
 go_loop [3,9] (fun v i=>∃k:Nat,k≤xs.length∧i= .int .i64 k∧v= .int .u64 (beV (xs.take k))) (fun _ i=>xs.length - (intOf i).toNat)
 case atStart=>exact⟨0,Nat.zero_le _,rfl,rfl⟩
 case round=>
  obtain⟨k,hk,rfl,rfl⟩:=hrel;by_cases hlt:k < xs.length
  ·obtain⟨b,o,rfl,hcell⟩:=hxc (by omega);have hcl:=hcell k (a1z xs[k]) (by simp [hlt]);unfold a1z at hcl;have hst:=e1k xs k hlt hl8;have hst2:=hjd hst;clear hcell hst;go_wp2_with fail;exact⟨⟨k + 1,by omega,by go_num,by rw [hst2.out]⟩,by simp [intOf];omega⟩
  ·obtain rfl:k=xs.length:=by omega
   go_wp2_with fail
   go_ret;exact⟨rfl,hr2.out,hk2.out⟩
theorem e7e(b:Value)(bs:List UInt8)(w:World)(hr:Rd w 1 b bs.length (bv bs))(hb:bs.length≤140737488355328) :
 Calls Tryz.prog 68 #[b] w fun e w'=>∃r,e= .returned (.pointer (some ⟨r,0,none⟩))∧a7n w' r (0,bs)∧Kept [] w w'∧w.heap.size≤r:=by
 have H:=hjd hr;clear hr;go_enter Tryz.func68,Tryz.ntmps68;go_wp2_with (go_at_call 127;refine(b1k _ bs w H.out hb).mono ?_;rintro e w1 ⟨ov,rfl,hn⟩;obtain⟨OA,oc,rfl,_⟩:=hn.ow.shape;have hn2:=hjd hn;clear hn);go_ret;exact⟨_,rfl,⟨_,Blk.new _ _ _,hn2.out.ow.alloc _⟩,hn2.out.kept.alloc _,hn2.out.kept.size⟩
end Go.Proofs.YtdbngnlpafcogaaGreat
namespace Go.Proofs.YtdbngnlpafcogaaGreat
open Go.RowKit Go.Mem
theorem b5i(r most:Nat)(s:St)(w:World)(h:a7n w r s)(hm:most < 9223372036854775808) :
 Calls Tryz.prog 137 #[.pointer (some ⟨r,0,none⟩),.int .u64 most] w fun e w'=>e= .returned (.int .i64 (a4l most s).1)∧a7n w' r (a4l most s).2∧Kept [r] w w':=by
 have H:=b0v r s w h;unfold a4l;have hlt:=b6j s;generalize a9r s=q at *;obtain⟨v,s2⟩:=q
 dsimp only at H hlt ⊢
 have H2:=hjd H;clear h H;by_cases hgt:most < v
 ·go_enter Tryz.func137,Tryz.ntmps137;go_wp2_with (go_at_call 72;refine H2.out.mono ?_;rintro e w1 ⟨rfl,⟨bv1,hb,ho⟩,hk⟩;have hf:=hb.frozen 1;have c1:=hb.cell 1;simp at c1;have hne:=ho.a2r hb (by decide);have hb2:=hjd hb;have ho2:=hjd ho;have hk2:=hjd hk;clear hb ho hk);go_ret;exact⟨rfl,⟨_,by simpa using hb2.out.b3i 1 _,by simpa using ho2.out.setCell (p:=⟨r,1,none⟩) hne _⟩,hk2.out.setCell (.inl (by simp)) _⟩
 ·go_enter Tryz.func137,Tryz.ntmps137;go_wp2_with (go_at_call 72;refine H2.out.mono ?_;rintro e w1 ⟨rfl,hr,hk⟩;have hr2:=hjd hr;have hk2:=hjd hk;clear hr hk);go_ret;exact⟨rfl,hr2.out,hk2.out⟩
theorem d6y(r:Nat)(s:St)(w:World)(h:a7n w r s) :
 Calls Tryz.prog 69 #[.pointer (some ⟨r,0,none⟩)] w fun e w'=>e= .returned (.int .i64 (a4l 65536 s).1)∧a7n w' r (a4l 65536 s).2∧Kept [r] w w':=by
 have H:=hjd (b5i r 65536 s w h (by omega));clear h;go_enter Tryz.func69,Tryz.ntmps69;go_wp2_with (go_at_call 137;refine H.out.mono ?_;rintro e w1 ⟨rfl,hr,hk⟩;have hr2:=hjd hr;have hk2:=hjd hk;clear hr hk);go_ret;exact⟨rfl,hr2.out,hk2.out⟩
theorem a9k(most:Nat)(s:St):(a4l most s).1≤most:=by
 unfold a4l;split
 ·exact Nat.zero_le _
 ·omega
theorem c9l(r:Nat)(s:St)(w:World)(h:a7n w r s) :
 Calls Tryz.prog 82 #[.pointer (some ⟨r,0,none⟩)] w fun e w'=>∃x,e= .returned x∧Ow w' 5 1 x (a2a s).1.length (bv (a2a s).1)∧d4e none w.heap.size x∧a7n w' r (a2a s).2∧Kept [r] w w':=by
 have H:=hjd (b5i r 1048576 s w h (by omega));have hle:=a9k 1048576 s;unfold a2a;have H2:∀w1,a7n w1 r (a4l 1048576 s).2→Calls Tryz.prog 138 #[.pointer (some ⟨r,0,none⟩),.int .i64 (a4l 1048576 s).1] w1 fun e w'=>∃x,e= .returned x∧Rd w' 1 x (a2z (a4l 1048576 s).1 (a4l 1048576 s).2).1.length (bv (a2z (a4l 1048576 s).1 (a4l 1048576 s).2).1)∧a7n w' r (a2z (a4l 1048576 s).1 (a4l 1048576 s).2).2∧Kept [r] w1 w':=
  fun w1 hr=>b4q r _ _ w1 hr (by omega)
 have hl:=a4q (a4l 1048576 s).1 (a4l 1048576 s).2;generalize (a2z (a4l 1048576 s).1 (a4l 1048576 s).2)=q at *;generalize (a4l 1048576 s)=p at *;obtain⟨xs,s3⟩:=q;obtain⟨n,s2⟩:=p
 dsimp only at H H2 hle hl ⊢
 have hs:=h.lt;have H3:=hjd H2;clear h H2;go_enter Tryz.func82,Tryz.ntmps82;go_wp2_with (first
  | (go_at_call 137;refine H.out.mono ?_;rintro e w1 ⟨rfl,hr,hk⟩;have hr2:=hjd hr;have hk2:=hjd hk;clear hr hk)
  | (go_at_call 138;refine(H3.out _ hr2.out).mono ?_;rintro e w2 ⟨x,rfl,hx,hr,hk⟩;have hx3:=hjd hx;have hr3:=hjd hr;have hk3:=hjd (hk2.out.trans' hk);clear hr hk hx)
  | (go_at_call 127;refine(b1k _ xs _ hx3.out (by omega)).mono ?_;rintro e w3 ⟨x3,rfl,hn⟩;have hn3:=hjd hn;clear hn))
 go_ret;refine⟨_,rfl,hn3.out.ow,?_,?_,hk3.out.a0g hn3.out.kept⟩
 ·rcases hn3.out.near with h | ⟨g,h,hg⟩
  ·exact .inl h
  ·exact .inr ⟨g,h,by have:=hk3.out.size;omega⟩
 ·obtain⟨v,hb,ho⟩:=hr3.out;exact⟨v,hb.kept hn3.out.kept (by simp),ho.a0k hn3.out.kept⟩
theorem a4m(r:Nat)(s:St)(w:World)(h:a7n w r s) :
 Calls Tryz.prog 70 #[.pointer (some ⟨r,0,none⟩)] w fun e w'=>e= .returned (.int .i64 (a8t s))∧w=w':=by
 obtain⟨bad,bs⟩:=s;obtain⟨v,hb,ho⟩:=h;have c0:=hb.cell 0;have c1:=hb.cell 1;simp at c0 c1;obtain⟨A,c,rfl,hc⟩:=ho.shape
 dsimp only at c0 ⊢
 clear ho hb;unfold a8t
 dsimp only
 by_cases h0:bad=0
 ·subst h0;rw [if_pos rfl];by_cases hl:0 < bs.length
  ·rw [if_pos hl];go_enter Tryz.func70,Tryz.ntmps70;go_wp2_with fail;go_ret;exact⟨rfl,rfl⟩
  ·rw [if_neg hl];go_enter Tryz.func70,Tryz.ntmps70;go_wp2_with fail;go_ret;exact⟨rfl,rfl⟩
 ·rw [if_neg h0];go_enter Tryz.func70,Tryz.ntmps70;go_wp2_with fail;go_ret;exact⟨rfl,rfl⟩
theorem a7n.kept{S:List Nat}{w w':World}{r:Nat}{s:St}(h:a7n w r s)(hk:Kept S w w')(hr:r∉S)(hS:∀k∈S,w.heap.size≤k∨∃t cs,Blk w k t cs∧t≠5):a7n w' r s:=by
 obtain⟨v,hb,ho⟩:=h;refine⟨v,hb.kept hk hr,ho.kept hk fun k hv hm=>?_⟩;rcases hS k hm with h | ⟨t,cs,h,hne⟩
 ·have:=ho.lt hv;omega
 ·exact ho.a2r h (fun e=>hne e.symm) hv
theorem a7n.a0k{w w':World}{r:Nat}{s:St}(h:a7n w r s)(hk:Kept [] w w'):a7n w' r s:=h.kept hk (by simp) (by simp)
theorem a7n.drew{w:World}{r:Nat}{s:St}(h:a7n w r s):a7n w.drew r s:=h
end Go.Proofs.YtdbngnlpafcogaaGreat
namespace Go.Proofs.YtdbngnlpafcogaaGreat
open Go.RowKit Go.Mem
def a4f(w:World)(base t:Nat)(s:St):Prop:=
 ∃(v:Value) (bs:List UInt8) (k:Nat),Blk w t 122 #[v,.int .i64 k,.int .i64 s.1]∧Rd w 1 v bs.length (bv bs)∧k≤bs.length∧bs.length≤9223372036854775807∧s.2=bs.drop k∧base≤t∧(0 < bs.length→∀g,v.ownBlock=some g→g < base)
theorem a4f.kept{S:List Nat}{w w':World}{base t:Nat}{s:St}(h:a4f w base t s)(hk:Kept S w w')(ht:t∉S)(hS:∀k∈S,base≤k):a4f w' base t s:=by
 obtain⟨v,bs,k,hb,hr,h1,h2,h3,h4,h5⟩:=h;refine⟨v,bs,k,hb.kept hk ht,hr.kept hk (fun hn g hg hm=>?_),h1,h2,h3,h4,h5⟩;have:=h5 hn g hg;have:=hS g hm;omega
theorem a4f.a0k{w w':World}{base t:Nat}{s:St}(h:a4f w base t s)(hk:Kept [] w w'):a4f w' base t s:=h.kept hk (by simp) (by simp)
theorem b2e(base t n:Nat)(s:St)(w:World)(h:a4f w base t s)(hn:n≤4611686018427387904) :
 Calls Tryz.prog 168 #[.pointer (some ⟨t,0,none⟩),.int .i64 n] w fun e w'=>∃x,e= .returned x∧Rd w' 1 x (a2z n s).1.length (bv (a2z n s).1)∧(0 < (a2z n s).1.length→∀g,x.ownBlock=some g→g < base)∧a4f w' base t (a2z n s).2∧Kept [t] w w':=by
 obtain⟨bad,ls⟩:=s;obtain⟨v,bs,k,hb,hr,hkl,hbl,hls,hbt,hold⟩:=h
 dsimp only at hls hb
 subst hls;have c0:=hb.cell 0;have c1:=hb.cell 1;have c2:=hb.cell 2;simp at c0 c1 c2;have hf1:=hb.frozen 1;have hf2:=hb.frozen 2;have hb2:=hjd hb;have hr2:=hjd hr;have hold2:=hjd hold;by_cases h0:bad=0
 ·subst h0;by_cases hl:n≤(bs.drop k).length
  ·rw [List.length_drop]at hl;obtain⟨X,dx,hX,rX,oX,_⟩:=c6z a1x hr .i64 .i64 k (k + n) (by omega) (by omega);obtain⟨A,c,rfl,_,_,_⟩:=hr;have hX2:∀W,(Instr.sliceAt 23 (.slice A bs.length c) (some (.int .i64 k)) (some (.int .i64 ((k:Int) + n))) none).run Tryz.prog W= .ok (.slice X n dx) W:=fun W=>by
    have:=hX W;rw [Nat.add_sub_cancel_left]at this;simpa using this
   have rX2:=hjd rX;have oX2:=hjd oX;clear hb hold rX hX oX;go_enter Tryz.func168,Tryz.ntmps168;go_wp2_with fail;refine Txt.a2g (by kernel_rfl) (by kernel_rfl) ?_;go_wp2_with fail;refine⟨rfl,by kernel_rfl,?_⟩;go_wp2_with fail;refine Txt.a2g (by kernel_rfl) (by kernel_rfl) ?_;go_wp2_with fail;refine⟨rfl,by kernel_rfl,?_⟩;go_wp2_with fail;go_ret;have e:a2z n (0,bs.drop k)=((bs.drop k).take n,(0,bs.drop (k + n))):=by simp [a2z];omega
   have e1:((bs.drop k).take n).length=n:=by rw [List.length_take,List.length_drop];omega
   rw [e];have hb3:=hb2.out.b3i 1 (.int .i64 ((k + n:Nat):Int));simp at hb3;have hkk:Kept [t] w (w.setCell ⟨t,1,none⟩ (.int .i64 ((k:Int) + n))):=(Kept.refl [t] w).setCell (.inl (List.mem_singleton.2 rfl)) _;have hfar:∀g,(Value.slice A bs.length c).ownBlock=some g→0 < bs.length→g∉[t]:=fun g hg hn hm=>by
    have:=hold2.out hn g hg;have:g=t:=by simpa using hm
    omega
   refine⟨.slice X n dx,rfl,?_,fun hn g hg=>hold2.out (by rw [e1]at hn;omega) g (by rw [←oX2.out (by rw [e1]at hn;omega)];simpa [Value.ownBlock]using hg),⟨.slice A bs.length c,bs,k + n,?_,?_,by omega,hbl,rfl,hbt,hold2.out⟩,?_⟩
   ·rw [e1];have:=rX2.out.kept hkk (fun hn g hg=>hfar g (by rw [←oX2.out hn];exact hg) (by omega));rw [Nat.add_sub_cancel_left]at this;simpa [bv]using this.drew.drew
   ·exact hb3.drew.drew
   ·exact(hr2.out.kept hkk (fun hn g hg=>hfar g hg hn)).drew.drew
   ·exact hkk.drew.drew
  ·rw [List.length_drop]at hl;obtain⟨A,c,rfl,_,_,_⟩:=hr;clear hb hold;go_enter Tryz.func168,Tryz.ntmps168;go_wp2_with fail;refine Txt.a2g (by kernel_rfl) (by kernel_rfl) ?_;go_wp2_with fail;refine⟨rfl,by kernel_rfl,?_⟩;go_wp2_with fail;go_ret;have e:a2z n (0,bs.drop k)=([],(10,bs.drop k)):=by simp [a2z];omega
   rw [e];have hb3:=hb2.out.b3i 2 (.int .i64 10);simp at hb3;have hkk:Kept [t] w (w.setCell ⟨t,2,none⟩ (.int .i64 10)):=(Kept.refl [t] w).setCell (.inl (List.mem_singleton.2 rfl)) _;refine⟨_,rfl,Rd.nil _ _,fun h=>absurd h (by simp),⟨_,bs,k,hb3.drew,Rd.drew (hr2.out.kept hkk (fun hn g hg hm=>?_)),hkl,hbl,rfl,hbt,hold2.out⟩,hkk.drew⟩;have:=hold2.out hn g hg;have:g=t:=by simpa using hm
   omega
 ·obtain⟨A,c,rfl,_,_,_⟩:=hr;clear hb hold;go_enter Tryz.func168,Tryz.ntmps168;go_wp2_with fail;go_ret;have e:a2z n (bad,bs.drop k)=([],(bad,bs.drop k)):=by simp [a2z,h0]
  rw [e];exact⟨_,rfl,Rd.nil _ _,fun h=>absurd h (by simp),⟨_,bs,k,hb2.out,hr2.out,hkl,hbl,rfl,hbt,hold2.out⟩,Kept.refl _ _⟩
theorem mul_be(V b:Nat)(hV:V < 72057594037927936)(hb:b < 256):IntKind.u64.wrap (IntKind.u64.wrap (256 * (V:Int)) + IntKind.u64.wrap (b:Int))=((V * 256 + b:Nat):Int):=by
 rw [IntKind.wrap_u64,IntKind.wrap_u64,IntKind.wrap_u64];omega
theorem d5b(xs:List UInt8)(k:Nat)(h:k < xs.length)(h8:xs.length≤8):IntKind.u64.wrap (IntKind.u64.wrap (256 * (beV (xs.take k):Int)) + IntKind.u64.wrap (xs[k].toNat:Int))=(beV (xs.take (k + 1)):Int):=by
 have hl:=d1s (xs.take k);have:256 ^ (xs.take k).length≤256 ^ 7:=Nat.pow_le_pow_right (by omega) (by rw [List.length_take];omega);rw [mul_be _ _ (by omega) (by have:=xs[k].toNat_lt;omega),List.take_succ_eq_append_getElem h,c7a]
theorem c7c(base t:Nat)(s:St)(w:World)(h:a4f w base t s) :
 Calls Tryz.prog 141 #[.pointer (some ⟨t,0,none⟩)] w fun e w'=>e= .returned (.int .u64 (a9r s).1)∧a4f w' base t (a9r s).2∧Kept [t] w w':=by
 have H:=b2e base t 8 s w h (by omega);have hl8:=a4q 8 s;unfold a9r;generalize a2z 8 s=q at *;obtain⟨xs,s2⟩:=q
 dsimp only at H hl8 ⊢
 have H2:=hjd H;clear h H;go_enter Tryz.func141,Tryz.ntmps141;go_wp2_with (go_at_call 168;refine H2.out.mono ?_;rintro e w1 ⟨x,rfl,hx,_,hr,hk⟩;obtain⟨XA,xc,rfl,hxl,_,hxc⟩:=hx);have hr2:=hjd hr;have hk2:=hjd hk;clear hr hk
 go_loop [3,9] (fun v i=>∃k:Nat,k≤xs.length∧i= .int .i64 k∧v= .int .u64 (beV (xs.take k))) (fun _ i=>xs.length - (intOf i).toNat)
 case atStart=>exact⟨0,Nat.zero_le _,rfl,rfl⟩
 case round=>
  obtain⟨k,hk,rfl,rfl⟩:=hrel;by_cases hlt:k < xs.length
  ·obtain⟨b,o,rfl,hcell⟩:=hxc (by omega);have hcl:=hcell k (a1z xs[k]) (by simp [hlt]);unfold a1z at hcl;have hst:=d5b xs k hlt hl8;have hst2:=hjd hst;clear hcell hst;go_wp2_with fail;exact⟨⟨k + 1,by omega,by go_num,by rw [hst2.out]⟩,by simp [intOf];omega⟩
  ·obtain rfl:k=xs.length:=by omega
   go_wp2_with fail
   go_ret;exact⟨rfl,hr2.out,hk2.out⟩
end Go.Proofs.YtdbngnlpafcogaaGreat
namespace Go.Proofs.YtdbngnlpafcogaaGreat
open Go.RowKit Go.Mem
theorem b8h:ArrT Tryz.prog 22 5 32:=⟨Tryz.underlying22,by kernel_rfl⟩
theorem b8w:ArrT Tryz.prog 32 5 64:=⟨Tryz.underlying32,by kernel_rfl⟩
theorem c0s:(Tryz.prog.info? 22).map (·.zero)=some (some (ab (a0m 32))):=by kernel_rfl
theorem b6c:(Tryz.prog.info? 32).map (·.zero)=some (some (ab (a0m 64))):=by kernel_rfl
def a8q(n:Nat)(s:St):List UInt8 × St:=(a5y (a0m n) 0 ((a2z n s).1),(a2z n s).2)
theorem a6x(n:Nat)(s:St):(a8q n s).1.length=n:=by
 unfold a8q;rw [a8f _ _ _ (by have:=a4q n s;simp;omega)];simp
theorem a7n.a8u{w w':World}{r g:Nat}{s:St}{t:TypeId}{cs:Array Value}(h:a7n w r s)(hk:Kept [g] w w')(hb:Blk w g t cs)(ht:t≠5)(hr:r≠g):a7n w' r s:=
 h.kept hk (by simpa using hr) (fun k hm=>by simp at hm;subst hm;exact .inr ⟨_,_,hb,ht⟩)
theorem b2u(r:Nat)(s:St)(w:World)(h:a7n w r s) :
 Calls Tryz.prog 71 #[.pointer (some ⟨r,0,none⟩)] w fun e w'=>e= .returned (ab (a8q 32 s).1)∧a7n w' r (a8q 32 s).2∧Kept [r] w w':=by
 have h2:=hjd h;clear h;go_enter Tryz.func71,Tryz.ntmps71;go_wp2_with (first
  | ((with_reducible refine a0h (o:=⟨some 2,_,_,_,_,_⟩) rfl rfl c0s ?_);intro g1 w1 m1)
  | ((with_reducible refine a0h (o:=⟨some 3,_,_,_,_,_⟩) rfl rfl c0s ?_);intro g2 w2 m2))
 refine Txt.a2g (by kernel_rfl) (by kernel_rfl) ?_;go_wp2_with fail;have hr2:=(h2.out.a0k m1.kept).a0k m2.kept;have n1:=m2.ne m1.blk.lt;have n2:=m1.ne h2.out.lt;have n3:=m2.ne (m1.kept.lt h2.out.lt);refine(b4q r 32 s _ hr2.drew (by omega)).mono ?_;rintro e w3 ⟨x,rfl,hx,hr,hk⟩;have b1:=(m1.blk.kept m2.kept (by simp)).drew.kept hk (by simp;omega);have b2:=m2.blk.drew.kept hk (by simp;omega);have H:=hjd (And.intro hr (And.intro b1 (And.intro b2 hk)));have M:=hjd (And.intro m1 m2);have N:=hjd (And.intro n1 (And.intro n2 n3));have hx2:=hjd hx;clear hr b1 hk m1 m2 hx n1 n2 n3 hr2;go_wp2_with (refine b6b a1x rfl (.tmp 4) (.tmp 6) rfl rfl b2 (Nat.le_of_eq rfl) rfl hx2.out (a2x _) ?_;intro w4 b4 k4;clear b2);have hl:=a4q 32 s;have e1:(a5y (ab (a0m 32)).cells.toList 0 (List.take 32 (bv (a2z 32 s).fst))).toArray=(bv (a8q 32 s).1).toArray:=by
  rw [List.take_of_length_le (by simpa using hl)];exact congrArg _ (b6n (a0m 32) _ 0)
 rw [e1]at b4;have l1:=a6x 32 s;refine⟨rfl,by kernel_rfl,?_⟩;have b5:=b4.drew;clear b4;go_wp2_with (first
  | (refine a0t b8h rfl (.tmp 3) rfl rfl b5 (by simpa using l1) ?_)
  | (refine a1p b8h rfl (.tmp 2) (.tmp 8) rfl rfl rfl ((H.out.2.1.kept k4 (by have:=N.out.1;simpa using this)).drew) rfl (by simpa using l1) (a3o _) ?_;intro w5 b6 k6))
 obtain⟨n1,n2,n3⟩:=N.out;obtain⟨hr,b1,b2,hk⟩:=H.out;have k5:Kept [g1] w4 w5:=k6;have b3:=(b1.kept k4 (by simpa using n1));refine a6l b8h rfl rfl b6 (by simpa using l1) rfl ⟨rfl,(hr.a8u k4 b2 (by decide) n3).a8u k5 b3 (by decide) n2,?_⟩;have m0:Kept [r] w w3:=((M.out.1.kept.a0g M.out.2.kept).of0.drew).trans' hk;exact(m0.a0r k4 (Nat.le_trans M.out.1.kept.size M.out.2.le)).a0r k5 M.out.1.le
theorem d6h(r:Nat)(s:St)(w:World)(h:a7n w r s) :
 Calls Tryz.prog 73 #[.pointer (some ⟨r,0,none⟩)] w fun e w'=>e= .returned (ab (a8q 64 s).1)∧a7n w' r (a8q 64 s).2∧Kept [r] w w':=by
 have h2:=hjd h;clear h;go_enter Tryz.func73,Tryz.ntmps73;go_wp2_with (first
  | ((with_reducible refine a0h (o:=⟨some 2,_,_,_,_,_⟩) rfl rfl b6c ?_);intro g1 w1 m1)
  | ((with_reducible refine a0h (o:=⟨some 3,_,_,_,_,_⟩) rfl rfl b6c ?_);intro g2 w2 m2))
 refine Txt.a2g (by kernel_rfl) (by kernel_rfl) ?_;go_wp2_with fail;have hr2:=(h2.out.a0k m1.kept).a0k m2.kept;have n1:=m2.ne m1.blk.lt;have n2:=m1.ne h2.out.lt;have n3:=m2.ne (m1.kept.lt h2.out.lt);refine(b4q r 64 s _ hr2.drew (by omega)).mono ?_;rintro e w3 ⟨x,rfl,hx,hr,hk⟩;have b1:=(m1.blk.kept m2.kept (by simp)).drew.kept hk (by simp;omega);have b2:=m2.blk.drew.kept hk (by simp;omega);have H:=hjd (And.intro hr (And.intro b1 (And.intro b2 hk)));have M:=hjd (And.intro m1 m2);have N:=hjd (And.intro n1 (And.intro n2 n3));have hx2:=hjd hx;clear hr b1 hk m1 m2 hx n1 n2 n3 hr2;go_wp2_with (refine b6b a1x rfl (.tmp 4) (.tmp 6) rfl rfl b2 (Nat.le_of_eq rfl) rfl hx2.out (a2x _) ?_;intro w4 b4 k4;clear b2);have hl:=a4q 64 s;have e1:(a5y (ab (a0m 64)).cells.toList 0 (List.take 64 (bv (a2z 64 s).fst))).toArray=(bv (a8q 64 s).1).toArray:=by
  rw [List.take_of_length_le (by simpa using hl)];exact congrArg _ (b6n (a0m 64) _ 0)
 rw [e1]at b4;have l1:=a6x 64 s;refine⟨rfl,by kernel_rfl,?_⟩;have b5:=b4.drew;clear b4;go_wp2_with (first
  | (refine a0t b8w rfl (.tmp 3) rfl rfl b5 (by simpa using l1) ?_)
  | (refine a1p b8w rfl (.tmp 2) (.tmp 8) rfl rfl rfl ((H.out.2.1.kept k4 (by have:=N.out.1;simpa using this)).drew) rfl (by simpa using l1) (a3o _) ?_;intro w5 b6 k6))
 obtain⟨n1,n2,n3⟩:=N.out;obtain⟨hr,b1,b2,hk⟩:=H.out;have k5:Kept [g1] w4 w5:=k6;have b3:=(b1.kept k4 (by simpa using n1));refine a6l b8w rfl rfl b6 (by simpa using l1) rfl ⟨rfl,(hr.a8u k4 b2 (by decide) n3).a8u k5 b3 (by decide) n2,?_⟩;have m0:Kept [r] w w3:=((M.out.1.kept.a0g M.out.2.kept).of0.drew).trans' hk;exact(m0.a0r k4 (Nat.le_trans M.out.1.kept.size M.out.2.le)).a0r k5 M.out.1.le
end Go.Proofs.YtdbngnlpafcogaaGreat
namespace Go.Proofs.YtdbngnlpafcogaaGreat
open Go.RowKit Go.Mem
theorem a4f.lt{w:World}{base t:Nat}{s:St}(h:a4f w base t s):t < w.heap.size:=by
 obtain⟨v,bs,k,hb,_⟩:=h;exact hb.lt
theorem a4f.c3z{w:World}{base t:Nat}{s:St}(h:a4f w base t s):base≤t:=by
 obtain⟨v,bs,k,hb,_,_,_,_,h,_⟩:=h;exact h
theorem thash_any(base t:Nat)(s:St)(w:World)(h:a4f w base t s) :
 Calls Tryz.prog 140 #[.pointer (some ⟨t,0,none⟩)] w fun e w'=>e= .returned (ab (a8q 32 s).1)∧a4f w' base t (a8q 32 s).2∧Kept [t] w w':=by
 have h2:=hjd h;have hl:=a4q 32 s;clear h;go_enter Tryz.func140,Tryz.ntmps140;go_wp2_with (first
  | ((with_reducible refine a0h (o:=⟨some 2,_,_,_,_,_⟩) rfl rfl c0s ?_);intro g1 w1 m1)
  | ((with_reducible refine a0h (o:=⟨some 3,_,_,_,_,_⟩) rfl rfl c0s ?_);intro g2 w2 m2)
  | (go_at_call 168;refine(b2e base t 32 s _ ((h2.out.a0k m1.kept).a0k m2.kept) (by omega)).mono ?_;rintro e w3 ⟨x,rfl,hx,ho,hr,hk⟩;obtain⟨XA,xc,rfl,hxl,_,hxc⟩:=hx))
 have lt1:=h2.out.lt;have n1:=m2.ne m1.blk.lt;have n2:=m1.ne lt1;have n3:=m2.ne (m1.kept.lt lt1);have b1:=(m1.blk.kept m2.kept (by simp)).kept hk (by simp;omega);have b2:=m2.blk.kept hk (by simp;omega);have hb1:=h2.out.c3z;have le1:base≤g1:=by have:=m1.le;omega
 have le2:base≤g2:=by have:=m2.le;have:=m1.kept.size;omega
 have H:=hjd (And.intro hr (And.intro b1 hk));have B:=hjd b2;have M:=hjd (And.intro m1 m2);have N:=hjd (And.intro n1 (And.intro n2 n3));clear hr b1 hk m1 m2 n1 n2 n3 b2 lt1 h2;generalize hq:a2z 32 s=q at *;obtain⟨xs,s2⟩:=q
 dsimp only at hxl hxc hl ho
 have hq2:=hjd hq;clear hq;go_loopg [9] 1000 (fun g i wk=>∃k:Nat,k≤xs.length∧g + k=1000∧i= .int .i64 k∧Blk wk g2 22 (bv (a5y (a0m 32) 0 (xs.take k))).toArray∧Kept [g2] w3 wk);case atStart=>exact⟨0,Nat.zero_le _,rfl,rfl,B.out,Kept.refl _ _⟩
 case round=>
  obtain⟨k,hk,hg,rfl,hb,hkw⟩:=hrel;by_cases hlt:k < xs.length
  ·obtain⟨xb,xo,rfl,hcell⟩:=hxc (by omega);have hcl:=hkw.cell (hcell k (a1z xs[k]) (by simp [hlt])) (by have:=ho (by omega) xb rfl;simp;omega);unfold a1z at hcl;have hfr:=hb.frozen k;have hcw:=hb.cell k;have hlk:k < (bv (a5y (a0m 32) 0 (xs.take k))).toArray.size:=by simp [a5y];omega
   rw [Array.getElem?_eq_getElem hlk]at hcw;have hst:=hb.b3i k (a1z xs[k]);have e1:(bv (a5y (a0m 32) 0 (xs.take k))).toArray.setIfInBounds k (a1z xs[k])=(bv (a5y (a0m 32) 0 (xs.take (k + 1)))).toArray:=by
    exact a9y (a0m 32) xs k hlt (by simp;omega)
   rw [e1]at hst;unfold a1z at hst;have hs2:=hjd hst;have hk2:=hjd (hkw.setCell (p:=⟨g2,k,none⟩) (.inl (by simp)) (Value.int .u8 xs[k].toNat));clear hst hkw hb e1;go_wp2_with fail;go_roundg (1000 - (k + 1));case measure=>omega
   case rel=>exact⟨k + 1,by omega,by omega,by go_num,hs2.out,hk2.out⟩
  ·obtain rfl:k=xs.length:=by omega
   rw [List.take_of_length_le (Nat.le_refl _)]at hb;have q1:(a8q 32 s).1=a5y (a0m 32) 0 xs:=by unfold a8q;rw [hq2.out]
   have q2:(a8q 32 s).2=s2:=by unfold a8q;rw [hq2.out]
   rw [←q1]at hb;have l1:=a6x 32 s;have hk2:=hjd hkw;clear hkw q1;go_wp2_with (first
    | (refine a0t b8h rfl (.tmp 3) rfl rfl hb (by simpa using l1) ?_)
    | (refine a1p b8h rfl (.tmp 2) (.tmp 18) rfl rfl rfl (H.out.2.1.kept hk2.out (by have:=N.out.1;simpa using this)) rfl (by simpa using l1) (a3o _) ?_;intro w5 b6 k6))
   obtain⟨n1,n2,n3⟩:=N.out;obtain⟨hr,b1,hk3⟩:=H.out;have k5:Kept [g1] _ w5:=k6;refine a6l b8h rfl rfl b6 (by simpa using l1) rfl ⟨rfl,(hr.kept hk2.out (by simpa using n3) (by simpa using le2)).kept k5 (by simpa using n2) (by simpa using le1),?_⟩;have m0:Kept [t] w w3:=(M.out.1.kept.a0g M.out.2.kept).of0.trans' hk3;exact(m0.a0r hk2.out (Nat.le_trans M.out.1.kept.size M.out.2.le)).a0r k5 M.out.1.le
theorem d8z(base t:Nat)(s:St)(w:World)(h:a4f w base t s) :
 Calls Tryz.prog 142 #[.pointer (some ⟨t,0,none⟩)] w fun e w'=>e= .returned (ab (a8q 64 s).1)∧a4f w' base t (a8q 64 s).2∧Kept [t] w w':=by
 have h2:=hjd h;have hl:=a4q 64 s;clear h;go_enter Tryz.func142,Tryz.ntmps142;go_wp2_with (first
  | ((with_reducible refine a0h (o:=⟨some 2,_,_,_,_,_⟩) rfl rfl b6c ?_);intro g1 w1 m1)
  | ((with_reducible refine a0h (o:=⟨some 3,_,_,_,_,_⟩) rfl rfl b6c ?_);intro g2 w2 m2)
  | (go_at_call 168;refine(b2e base t 64 s _ ((h2.out.a0k m1.kept).a0k m2.kept) (by omega)).mono ?_;rintro e w3 ⟨x,rfl,hx,ho,hr,hk⟩;obtain⟨XA,xc,rfl,hxl,_,hxc⟩:=hx))
 have lt1:=h2.out.lt;have n1:=m2.ne m1.blk.lt;have n2:=m1.ne lt1;have n3:=m2.ne (m1.kept.lt lt1);have b1:=(m1.blk.kept m2.kept (by simp)).kept hk (by simp;omega);have b2:=m2.blk.kept hk (by simp;omega);have hb1:=h2.out.c3z;have le1:base≤g1:=by have:=m1.le;omega
 have le2:base≤g2:=by have:=m2.le;have:=m1.kept.size;omega
 have H:=hjd (And.intro hr (And.intro b1 hk));have B:=hjd b2;have M:=hjd (And.intro m1 m2);have N:=hjd (And.intro n1 (And.intro n2 n3));clear hr b1 hk m1 m2 n1 n2 n3 b2 lt1 h2;generalize hq:a2z 64 s=q at *;obtain⟨xs,s2⟩:=q
 dsimp only at hxl hxc hl ho
 have hq2:=hjd hq;clear hq;go_loopg [9] 1000 (fun g i wk=>∃k:Nat,k≤xs.length∧g + k=1000∧i= .int .i64 k∧Blk wk g2 32 (bv (a5y (a0m 64) 0 (xs.take k))).toArray∧Kept [g2] w3 wk);case atStart=>exact⟨0,Nat.zero_le _,rfl,rfl,B.out,Kept.refl _ _⟩
 case round=>
  obtain⟨k,hk,hg,rfl,hb,hkw⟩:=hrel;by_cases hlt:k < xs.length
  ·obtain⟨xb,xo,rfl,hcell⟩:=hxc (by omega);have hcl:=hkw.cell (hcell k (a1z xs[k]) (by simp [hlt])) (by have:=ho (by omega) xb rfl;simp;omega);unfold a1z at hcl;have hfr:=hb.frozen k;have hcw:=hb.cell k;have hlk:k < (bv (a5y (a0m 64) 0 (xs.take k))).toArray.size:=by simp [a5y];omega
   rw [Array.getElem?_eq_getElem hlk]at hcw;have hst:=hb.b3i k (a1z xs[k]);have e1:(bv (a5y (a0m 64) 0 (xs.take k))).toArray.setIfInBounds k (a1z xs[k])=(bv (a5y (a0m 64) 0 (xs.take (k + 1)))).toArray:=by
    exact a9y (a0m 64) xs k hlt (by simp;omega)
   rw [e1]at hst;unfold a1z at hst;have hs2:=hjd hst;have hk2:=hjd (hkw.setCell (p:=⟨g2,k,none⟩) (.inl (by simp)) (Value.int .u8 xs[k].toNat));clear hst hkw hb e1;go_wp2_with fail;go_roundg (1000 - (k + 1));case measure=>omega
   case rel=>exact⟨k + 1,by omega,by omega,by go_num,hs2.out,hk2.out⟩
  ·obtain rfl:k=xs.length:=by omega
   rw [List.take_of_length_le (Nat.le_refl _)]at hb;have q1:(a8q 64 s).1=a5y (a0m 64) 0 xs:=by unfold a8q;rw [hq2.out]
   have q2:(a8q 64 s).2=s2:=by unfold a8q;rw [hq2.out]
   rw [←q1]at hb;have l1:=a6x 64 s;have hk2:=hjd hkw;clear hkw q1;go_wp2_with (first
    | (refine a0t b8w rfl (.tmp 3) rfl rfl hb (by simpa using l1) ?_)
    | (refine a1p b8w rfl (.tmp 2) (.tmp 18) rfl rfl rfl (H.out.2.1.kept hk2.out (by have:=N.out.1;simpa using this)) rfl (by simpa using l1) (a3o _) ?_;intro w5 b6 k6))
   obtain⟨n1,n2,n3⟩:=N.out;obtain⟨hr,b1,hk3⟩:=H.out;have k5:Kept [g1] _ w5:=k6;refine a6l b8w rfl rfl b6 (by simpa using l1) rfl ⟨rfl,(hr.kept hk2.out (by simpa using n3) (by simpa using le2)).kept k5 (by simpa using n2) (by simpa using le1),?_⟩;have m0:Kept [t] w w3:=(M.out.1.kept.a0g M.out.2.kept).of0.trans' hk3;exact(m0.a0r hk2.out (Nat.le_trans M.out.1.kept.size M.out.2.le)).a0r k5 M.out.1.le
theorem c2r(base t most:Nat)(s:St)(w:World)(h:a4f w base t s)(hm:most < 9223372036854775808) :
 Calls Tryz.prog 139 #[.pointer (some ⟨t,0,none⟩),.int .u64 most] w fun e w'=>e= .returned (.int .i64 (a4l most s).1)∧a4f w' base t (a4l most s).2∧Kept [t] w w':=by
 have H:=c7c base t s w h;unfold a4l;have hlt:=b6j s;generalize a9r s=q at *;obtain⟨v,s2⟩:=q
 dsimp only at H hlt ⊢
 have H2:=hjd H;clear h H;by_cases hgt:most < v
 ·go_enter Tryz.func139,Tryz.ntmps139;go_wp2_with (go_at_call 141;refine H2.out.mono ?_;rintro e w1 ⟨rfl,⟨v1,bs,k,hb,hr,h1,h2,h3,h4,h5⟩,hk⟩;have hf:=hb.frozen 2;have c1:=hb.cell 2;simp at c1;have hb2:=hjd (And.intro hb (And.intro hr (And.intro h3 h5)));have hk2:=hjd hk;clear hb hr hk h3 h5);go_ret;obtain⟨hb,hr,h3,h5⟩:=hb2.out;have kk:Kept [t] w1 (w1.setCell ⟨t,2,none⟩ (.int .i64 12)):=(Kept.refl [t] w1).setCell (.inl (by simp)) _;refine⟨rfl,⟨v1,bs,k,by simpa using hb.b3i 2 (.int .i64 12),hr.kept kk (fun hn g hg hm=>?_),h1,h2,h3,h4,h5⟩,hk2.out.trans' kk⟩;have:=h5 hn g hg;have:g=t:=by simpa using hm
  omega
 ·go_enter Tryz.func139,Tryz.ntmps139;go_wp2_with (go_at_call 141;refine H2.out.mono ?_;rintro e w1 ⟨rfl,hr,hk⟩;have hr2:=hjd hr;have hk2:=hjd hk;clear hr hk);go_ret;exact⟨rfl,hr2.out,hk2.out⟩
theorem d8m(base t:Nat)(s:St)(w:World)(h:a4f w base t s) :
 Calls Tryz.prog 75 #[.pointer (some ⟨t,0,none⟩)] w fun e w'=>e= .returned (.int .i64 (a8t s))∧Kept [] w w':=by
 obtain⟨bad,ls⟩:=s;obtain⟨v,bs,k,hb,hr,hkl,hbl,hls,_⟩:=h
 dsimp only at hls hb
 have c0:=hb.cell 0;have c1:=hb.cell 1;have c2:=hb.cell 2;simp at c0 c1 c2;obtain⟨A,c,rfl,_,_,_⟩:=hr;have hl:ls.length=bs.length - k:=by rw [hls,List.length_drop]
 clear hb hls;unfold a8t
 dsimp only
 by_cases h0:bad=0
 ·subst h0;rw [if_pos rfl];by_cases hl2:k < bs.length
  ·rw [if_pos (by omega)];clear hl;go_enter Tryz.func75,Tryz.ntmps75;go_wp2_with fail
   go_quiet (fail)
   go_wp2_with fail
   go_ret;exact⟨rfl,(Kept.refl _ w).drewN _⟩
  ·rw [if_neg (by omega)];clear hl;go_enter Tryz.func75,Tryz.ntmps75;go_wp2_with fail
   go_quiet (fail)
   go_wp2_with fail
   go_ret;exact⟨rfl,(Kept.refl _ w).drewN _⟩
 ·rw [if_neg h0];clear hl;go_enter Tryz.func75,Tryz.ntmps75;go_wp2_with fail
  go_quiet (fail)
  go_wp2_with fail
  go_ret;exact⟨rfl,(Kept.refl _ w).drewN _⟩
/-! ### The reader that is nil -/
end Go.Proofs.YtdbngnlpafcogaaGreat
namespace Go.Proofs.YtdbngnlpafcogaaGreat
open Go.RowKit Go.Mem Go.Txt
theorem d5t{n:Nat}{s:St}(h:s.1≠0):a2z n s=([],s):=by unfold a2z;rw [if_neg h]
theorem b2z{n:Nat}{s:St}(h:(a2z n s).2.1=0):s.1=0∧n≤s.2.length∧s.2=(a2z n s).1 ++ (a2z n s).2.2∧(a2z n s).1.length=n:=by
 have h0:s.1=0:=by
  by_cases h0:s.1=0
  ·exact h0
  ·rw [d5t h0]at h;exact h
 unfold a2z at h ⊢;rw [if_pos h0]at h ⊢;by_cases hn:n≤s.2.length
 ·rw [if_pos hn]at h ⊢;refine⟨h0,hn,?_,?_⟩
  ·simp
  ·simp;omega
 ·rw [if_neg hn]at h
  cases h
theorem d4b{n:Nat}{s:St}(h:(a8q n s).2.1=0):s.1=0∧s.2=(a8q n s).1 ++ (a8q n s).2.2:=by
 obtain⟨h0,_,h2,h3⟩:=b2z (n:=n) (s:=s) h;refine⟨h0,?_⟩;unfold a8q;rw [c0d _ _ (by rw [h3];simp)];exact h2
theorem d7x{l:List UInt8}(h:l.length=8):be8 (beV l)=l:=by
 match l,h with
 | [a,b,c,d,e,f,g,k],_=>
   have ha:=UInt8.toNat_lt a;have hb:=UInt8.toNat_lt b;have hc:=UInt8.toNat_lt c;have hd:=UInt8.toNat_lt d;have he:=UInt8.toNat_lt e;have hf:=UInt8.toNat_lt f;have hg:=UInt8.toNat_lt g;have hk:=UInt8.toNat_lt k;have e8:∀n:Nat,be8 n= [UInt8.ofNat (n / 256 ^ 7),UInt8.ofNat (n / 256 ^ 6),UInt8.ofNat (n / 256 ^ 5),UInt8.ofNat (n / 256 ^ 4),UInt8.ofNat (n / 256 ^ 3),UInt8.ofNat (n / 256 ^ 2),UInt8.ofNat (n / 256 ^ 1),UInt8.ofNat (n / 256 ^ 0)]:=fun n=>rfl
   rw [e8];simp only [beV,List.foldl_cons,List.foldl_nil];have t:∀(n:Nat) (x:UInt8),n % 256=x.toNat→UInt8.ofNat n=x:=fun n x hn=>by
    apply UInt8.toNat_inj.1;rw [UInt8.toNat_ofNat'];exact hn
   rw [t _ a (by omega),t _ b (by omega),t _ c (by omega),t _ d (by omega),t _ e (by omega),t _ f (by omega),t _ g (by omega),t _ k (by omega)]
theorem c3p{s:St}(h:(a9r s).2.1=0):s.1=0∧s.2=be8 (a9r s).1 ++ (a9r s).2.2:=by
 obtain⟨h0,_,h2,h3⟩:=b2z (n:=8) (s:=s) h;refine⟨h0,?_⟩;unfold a9r;rw [d7x h3];exact h2
theorem c1w{most:Nat}{s:St}(h:(a4l most s).2.1=0):s.1=0∧s.2=be8 (a4l most s).1 ++ (a4l most s).2.2:=by
 unfold a4l at h ⊢;split at h
 ·cases h
 ·rename_i hn
  rw [if_neg hn];exact c3p h
end Go.Proofs.YtdbngnlpafcogaaGreat
namespace Go.Mem
open Go.RowKit Go.Txt
end Go.Mem
