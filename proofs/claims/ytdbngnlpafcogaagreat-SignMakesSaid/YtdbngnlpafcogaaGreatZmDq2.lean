/-
  The document's digests: words for the walk (64 bits).
-/
import Derived.Test.YtdbngnlpafcogaaGreatZmDq1
set_option maxRecDepth 100000
namespace Go.Proofs.YtdbngnlpafcogaaGreat.Q
open Go.RowKit Go.Mem Go.Txt
abbrev N64(n:Nat):Value:=.int .u64 (n:Int)
def nL0:List Nat:=[2,13,22,6,11,25,7,18,3,17,19,10]
def nL:List Nat:=[28,34,39,14,18,41,1,8,7,19,61,6]
theorem d3l{α:Type}(v:α→Value)(z:α)(N:Nat):List.replicate N (v z)=((fam N (fun _=>z)).map v).toArray.toList:=by
 apply List.ext_getElem (by simp [fam])
 intro i h1 h2
 simp [fam]
theorem c6k(N:Nat)(h:N≤2000):∃Z:Array Value,Z=((fam N (fun _=>0)).map N64).toArray∧∀W:World,(Instr.makeSlice 158 (.int .i64 N) (.int .i64 N)).run Tryz.prog W= .ok (.slice (some ⟨W.heap.size,0,none⟩) N N) (W.alloc (.cells Z 67)):=by
 refine⟨_,?_,fun W=>run_mk b9v N (by omega) (by omega) W⟩
 apply Array.toList_inj.1
 rw [show(Value.int IntKind.u64 0).cells= #[N64 0]from rfl,a6u]
 exact d3l N64 0 N
theorem d5u(N:Nat)(h:N≤2000):∃Z:Array Value,Z=((fam N (fun _=>(0:UInt8))).map a1q).toArray∧∀W:World,(Instr.makeSlice 23 (.int .i64 N) (.int .i64 N)).run Tryz.prog W= .ok (.slice (some ⟨W.heap.size,0,none⟩) N N) (W.alloc (.cells Z 5)):=by
 refine⟨_,?_,fun W=>run_mk a2x N (by omega) (by omega) W⟩
 apply Array.toList_inj.1
 rw [show(Value.int IntKind.u8 0).cells= #[a1q 0]from rfl,a6u]
 exact d3l a1q 0 N
def wp(p:Nat→UInt8)(t:Nat):Nat→Nat
 | 0=>0
 | k + 1=>wp p t k * 256 + (p (8 * t + k)).toNat
theorem e4u(p:Nat→UInt8)(t:Nat):∀k,wp p t k < 256 ^ k
 | 0=>by simp [wp]
 | k + 1=>by
   have:=e4u p t k
   have h:=UInt8.toNat_lt (p (8 * t + k))
   simp only [wp,Nat.pow_succ]
   omega
theorem or_add{a b i:Nat}(h:b < 2 ^ i):a * 2 ^ i ||| b=a * 2 ^ i + b:=by
 rw [Nat.mul_comm]
 exact(Nat.two_pow_add_eq_or_of_lt h a).symm
theorem c8g(p:Nat→UInt8)(t:Nat):∀k,k≤8→wp p t k=(c7v p t k).toNat
 | 0,_=>rfl
 | k + 1,hk=>by
   have ih:=c8g p t k (by omega)
   have hl:=e4u p t k
   have hb:=UInt8.toNat_lt (p (8 * t + k))
   have hp:256 ^ k≤256 ^ 7:=Nat.pow_le_pow_right (by decide) (by omega)
   simp only [wp,c7v]
   rw [BitVec.toNat_or,BitVec.toNat_shiftLeft,BitVec.toNat_ofNat,←ih,Nat.shiftLeft_eq]
   generalize wp p t k=a at *
   generalize (p (8 * t + k)).toNat=b at *
   rw [Nat.mod_eq_of_lt (show b < 2 ^ 64 by omega),Nat.mod_eq_of_lt (show a * 2 ^ 8 < 2 ^ 64 by omega),or_add (i:=8) (by omega)]
theorem d8r(p:Nat→UInt8)(t:Nat):wp p t 8=(wrd p t).toNat:=c8g p t 8 (Nat.le_refl _)
def rdX(p:Nat→UInt8)(t k i:Nat):Nat:=if i < t then(wrd p i).toNat else if i=t then wp p t k else 0
theorem d4w(p:Nat→UInt8)(t:Nat):rdX p t 8=rdX p (t + 1) 0:=by
 funext i
 unfold rdX
 by_cases h1:i < t
 ·rw [if_pos h1,if_pos (by omega)]
 ·rw [if_neg h1]
  by_cases h2:i=t
  ·subst h2;rw [if_pos rfl,if_pos (by omega),d8r]
  ·rw [if_neg h2,if_neg (by omega)]
   split <;> rfl
theorem e2c(p:Nat→UInt8)(t k:Nat):(fun j=>if j=t then wp p t (k + 1)else rdX p t k j)=rdX p t (k + 1):=by
 funext i
 unfold rdX
 by_cases h2:i=t
 ·subst h2;rw [if_pos rfl,if_neg (Nat.lt_irrefl _),if_pos rfl]
 ·rw [if_neg h2,if_neg h2,if_neg h2]
theorem rdX_at(p:Nat→UInt8)(t k:Nat):rdX p t k t=wp p t k:=by unfold rdX;rw [if_neg (Nat.lt_irrefl _),if_pos rfl]
theorem e4d(p:Nat→UInt8):rdX p 16 0=mix (fun _=>0) (fun i=>(sch p i).toNat) 16:=by
 funext i
 unfold rdX mix
 by_cases h1:i < 16
 ·rw [if_pos h1,if_pos h1]
  show(wrd p i).toNat=(sch p i).toNat
  rw [d0g p h1]
 ·rw [if_neg h1,if_neg h1]
  split <;> rfl
theorem unot(x:B64):bits .xor .u64 IntKind.u64.max (x.toNat:Int)=((~~~x).toNat:Nat):=by
 rw [show IntKind.u64.max=18446744073709551615 from by decide,bnot]
def VR(u:World)(g o:Nat)(v:Nat→B64):Prop:=∀j,j < 8→u.cell? ⟨g,o + j,none⟩=some (W64 (v j))
def VC(u:World)(g o a0 a1 a2 a3 a4 a5 a6 a7:Nat):Prop:=
 u.cell? ⟨g,o,none⟩=some (N64 a0)∧u.cell? ⟨g,o + 1,none⟩=some (N64 a1)∧u.cell? ⟨g,o + 2,none⟩=some (N64 a2)∧u.cell? ⟨g,o + 3,none⟩=some (N64 a3)∧u.cell? ⟨g,o + 4,none⟩=some (N64 a4)∧u.cell? ⟨g,o + 5,none⟩=some (N64 a5)∧u.cell? ⟨g,o + 6,none⟩=some (N64 a6)∧u.cell? ⟨g,o + 7,none⟩=some (N64 a7)
theorem VC.of{u:World}{g o:Nat}{v:Nat→B64}(h:VR u g o v):VC u g o (v 0).toNat (v 1).toNat (v 2).toNat (v 3).toNat (v 4).toNat (v 5).toNat (v 6).toNat (v 7).toNat:=
 ⟨h 0 (by decide),h 1 (by decide),h 2 (by decide),h 3 (by decide),h 4 (by decide),h 5 (by decide),h 6 (by decide),h 7 (by decide)⟩
theorem VC.a1o{u u':World}{g o a0 a1 a2 a3 a4 a5 a6 a7:Nat}(h:VC u g o a0 a1 a2 a3 a4 a5 a6 a7)(k:Kept [] u u'):VC u' g o a0 a1 a2 a3 a4 a5 a6 a7:=by
 obtain⟨h0,h1,h2,h3,h4,h5,h6,h7⟩:=h
 exact⟨k.cell h0 (by simp),k.cell h1 (by simp),k.cell h2 (by simp),k.cell h3 (by simp),k.cell h4 (by simp),k.cell h5 (by simp),k.cell h6 (by simp),k.cell h7 (by simp)⟩
theorem VR.a1o{u u':World}{g o:Nat}{v:Nat→B64}(h:VR u g o v)(k:Kept [] u u'):VR u' g o v:=fun j hj=>k.cell (h j hj) (by simp)
theorem VR.keptS{u u':World}{S:List Nat}{g o:Nat}{v:Nat→B64}(h:VR u g o v)(k:Kept S u u')(hg:g∉S):VR u' g o v:=fun j hj=>k.cell (h j hj) hg
theorem d7d{α:Type}(n:Nat)(f:Nat→α):fam (n + 1) f=fam n f ++ [f n]:=by unfold fam;rw [List.range_succ,List.map_append];rfl
theorem VC.vr{u:World}{g:Nat}{v:Nat→B64}{cs:Array Value}{t:TypeId}(hb:Blk u g t cs)(he:(fam 8 fun j=>(v j).toNat).map N64=cs.toList):VR u g 0 v:=by
 intro j hj
 rw [Nat.zero_add,hb.cell,←Array.getElem?_toList,←he]
 simp [fam,hj]
theorem ch_val(e f g:B64):bits .or .u64 (bits .and .u64 (e.toNat:Int) (f.toNat:Int)) (bits .and .u64 ((~~~e).toNat:Int) (g.toNat:Int))=((chB e f g).toNat:Int):=by rw [d4a,d4a,bor,ch_or]
theorem mj_val(a b c:B64):bits .or .u64 (bits .or .u64 (bits .and .u64 (a.toNat:Int) (b.toNat:Int)) (bits .and .u64 (a.toNat:Int) (c.toNat:Int))) (bits .and .u64 (b.toNat:Int) (c.toNat:Int))=((mjB a b c).toNat:Int):=by rw [d4a,d4a,d4a,bor,bor,mj_or]
theorem d5b(k m:B64)(v:Nat→B64):(fam 8 fun j=>(rnd k m v j).toNat).map N64= #[N64 (v 7 + us1 (v 4) + chB (v 4) (v 5) (v 6) + k + m + (us0 (v 0) + mjB (v 0) (v 1) (v 2))).toNat,N64 (v 0).toNat,N64 (v 1).toNat,N64 (v 2).toNat,N64 (v 3 + (v 7 + us1 (v 4) + chB (v 4) (v 5) (v 6) + k + m)).toNat,N64 (v 4).toNat,N64 (v 5).toNat,N64 (v 6).toNat].toList:=rfl
def lbF(q j i:Nat):UInt8:=if 16≤i + j then UInt8.ofNat (q / 256 ^ (15 - i))else 0
theorem e2f(q:Nat)(hq:q < 18446744073709551616):fam 16 (lbF q 16)=List.replicate 8 0 ++ be8 q:=by
 apply List.ext_getElem (by simp [fam,be8])
 intro i h1 h2
 have hi:i < 16:=by simpa [fam]using h1
 rw [b7f 16 _ i hi]
 unfold lbF
 rw [if_pos (by omega)]
 by_cases h8:i < 8
 ·rw [List.getElem_append_left (by simpa using h8),List.getElem_replicate]
  have hp:256 ^ 8≤256 ^ (15 - i):=Nat.pow_le_pow_right (by decide) (by omega)
  rw [Nat.div_eq_of_lt (by omega)]
  rfl
 ·rw [List.getElem_append_right (by simpa using h8)]
  simp only [be8,List.length_replicate,List.getElem_map,List.getElem_range]
  rw [show 7 - (i - 8)=15 - i from by omega]
theorem e3q(q j:Nat)(hj:j < 16):(fun i=>if i=15 - j then UInt8.ofNat (q / 256 ^ j)else lbF q j i)=lbF q (j + 1):=by
 funext i
 unfold lbF
 by_cases h1:i=15 - j
 ·rw [if_pos h1,if_pos (by omega),h1,show 15 - (15 - j)=j from by omega]
 ·rw [if_neg h1]
  by_cases h2:16≤i + j
  ·rw [if_pos h2,if_pos (by omega)]
  ·rw [if_neg h2,if_neg (by omega)]
theorem b4l(n:Nat):Value.int .u8 ((n:Int) % 256)=a1q (UInt8.ofNat n):=by
 unfold a1q
 rw [UInt8.toNat_ofNat']
 congr 1
theorem d4g:∀k,k < 8→a3v.getD k 0 < 18446744073709551616:=by decide
theorem d0w(n:Nat)(h:n < 18446744073709551616):(n:Int)=((n64 n).toNat:Nat):=by
 unfold n64
 rw [BitVec.toNat_ofNat]
 omega
theorem b2t(w:World):(isAgg 25).run Tryz.prog w= .ok false w:=by kernel_rfl
theorem New.c0q{w w1:World}{v:Value}{xs:List UInt8}(h:New w w1 v xs){p:Addr}(hp:v.ownBlock≠some p.block)(hw:w.heap.size≤p.block)(u:Value):New w (w1.setCell p u) v xs:=⟨h.ow.setCell hp u,h.kept.setCell (.inr hw) u,h.near⟩
end Go.Proofs.YtdbngnlpafcogaaGreat.Q
