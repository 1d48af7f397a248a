/-
  Digests: the walk of Sum256 (under way).
-/
import Derived.Test.YtdbngnlpafcogaaGreatZcJ03
import Derived.Test.YtdbngnlpafcogaaGreatZcFam
import Derived.Test.YtdbngnlpafcogaaGreatZcJ00
set_option maxRecDepth 100000
namespace Go.Mem
open Go.RowKit
theorem a2y{P:Program}{u:World}{a:Act}{o:Oper}{t:TypeId}(x:Operand)(ho:o.op= .load t x)(hs:∀w,(isAgg t).run P w= .ok false w){p:Addr}(hx:a.eval x= .pointer (some p)){v:Value}(hc:u.cell? p=some v) :
 (execOp a.eval o).run P u= .ok (.value v) u:=by
 have h2:(isAgg t).run P u= .ok false u:=hs u;simp [execOp,ho,hx,Instr.loadAt,Instr.sureAddr,loadVar,h2,hc]
end Go.Mem
namespace Go.Proofs.YtdbngnlpafcogaaGreat
open Go.RowKit Go.Mem Go.Txt
theorem b0q(w:World):(isAgg 175).run Tryz.prog w= .ok false w:=by kernel_rfl
theorem w8z:(Tryz.prog.info? 176).map (·.zero)=some (some (.agg ((fam 8 fun _=>(0:B32)).map W32).toArray)):=by kernel_rfl
theorem e2c:(Tryz.prog.info? 22).map (·.zero)=some (some (ab (a0m 32))):=by kernel_rfl
theorem d1e(w:World):(isAgg 67).run Tryz.prog w= .ok false w:=by kernel_rfl
theorem u64s(w:World):(sizeOf 67).run Tryz.prog w= .ok 1 w:=by kernel_rfl
theorem e0x(cs:Array Value)(k:Nat)(v:Value)(hk:k < 8)(hv:cs[k]?=some v)(w:World):(Instr.index 155 (.agg cs) (.int .i64 (k:Int))).run Tryz.prog w= .ok v w:=by
 have h1:(0:Int)≤k∧(k:Int) < 8:=by omega
 have h2:¬8≤k:=by omega
 simp [Instr.index,run_underlying Tryz.underlying155,asIntOf,h1,h2,u64s w,part,hv]
theorem w8R:RowT Tryz.prog 176 8:=⟨⟨_,Tryz.underlying176,rfl⟩,by kernel_rfl⟩
theorem d4w(l:List B32):(l.map W32).toArray.all (·.oneCell')=true:=by
 rw [Array.all_eq_true_iff_forall_mem];intro u hu;simp only [List.mem_toArray,List.mem_map]at hu;obtain⟨x,_,rfl⟩:=hu;rfl
theorem b9s(cs:Array Value)(k:Nat)(v:Value)(hk:k < 8)(hv:cs[k]?=some v)(w:World):(Instr.index 176 (.agg cs) (.int .i64 (k:Int))).run Tryz.prog w= .ok v w:=by
 have h1:(0:Int)≤k∧(k:Int) < 8:=by omega
 have h2:¬8≤k:=by omega
 have u32s:(sizeOf 175).run Tryz.prog w= .ok 1 w:=by kernel_rfl
 simp [Instr.index,run_underlying Tryz.underlying176,asIntOf,h1,h2,u32s,part,hv]
def b2v(h:Nat→B32)(j:Nat):UInt8:=UInt8.ofNat ((h (j / 4)).toNat / 2 ^ (24 - 8 * (j % 4)))
theorem c3u(h:Nat→B32):c3k h=fam 32 (b2v h):=rfl
theorem e6c:RowT Tryz.prog 22 32:=⟨⟨_,Tryz.underlying22,rfl⟩,by kernel_rfl⟩
theorem b7p(h:Nat→B32)(k i:Nat)(hi:i < 4)(q:Nat)(hq:q=2 ^ (24 - 8 * i)):((h k).toNat:Int) / (q:Int) % 256=((b2v h (4 * k + i)).toNat:Int):=by
 subst hq;unfold b2v;rw [show(4 * k + i) / 4=k from by omega,show(4 * k + i) % 4=i from by omega,UInt8.toNat_ofNat'];generalize 2 ^ (24 - 8 * i)=q;show((h k).toNat:Int) / (q:Int) % ((256:Nat):Int)=(((h k).toNat / q % 256:Nat):Int);rw [Int.natCast_emod,Int.natCast_ediv]
theorem a8j(h:Nat→B32):(c3k h).length=32:=by simp [c3k]
theorem m64z:(Tryz.prog.info? 180).map (·.zero)=some (some (.agg ((fam 64 fun _=>(0:B32)).map W32).toArray)):=by kernel_rfl
theorem e3l(n:Nat):IntKind.u32.wrap ((n:Int) / 4294967296)=((c5g n).toNat:Nat):=by
 rw [IntKind.wrap_u32];unfold c5g;rw [BitVec.toNat_ofNat];omega
structure ShB (w0:World) (g2 g3 g6 g7:Nat) (h m:Nat→B32) (u:World):Prop where
 b2:Blk u g2 22 (bv (a0m 32)).toArray
 b3:Blk u g3 176 ((fam 8 h).map W32).toArray
 b6:Blk u g6 178 (uv a2f).toArray
 b7:Blk u g7 180 ((fam 64 m).map W32).toArray
 k:Kept [] w0 u
 l2:w0.heap.size≤g2
 l3:w0.heap.size≤g3
 l6:w0.heap.size≤g6
 l7:w0.heap.size≤g7
theorem ShB.kept{w0 u u':World}{g2 g3 g6 g7:Nat}{h m:Nat→B32}(t:ShB w0 g2 g3 g6 g7 h m u)(hk:Kept [] u u'):ShB w0 g2 g3 g6 g7 h m u':=⟨t.b2.kept hk (by simp),t.b3.kept hk (by simp),t.b6.kept hk (by simp),t.b7.kept hk (by simp),t.k.a0g hk,t.l2,t.l3,t.l6,t.l7⟩
theorem ShB.drew{w0 u:World}{g2 g3 g6 g7:Nat}{h m:Nat→B32}(t:ShB w0 g2 g3 g6 g7 h m u):ShB w0 g2 g3 g6 g7 h m u.drew:=t.kept (Kept.refl [] u).drew
theorem e0w(a:UInt8):(a.toNat:Int) % 4294967296=((BitVec.ofNat 32 a.toNat).toNat:Nat):=by
 have:=UInt8.toNat_lt a;rw [BitVec.toNat_ofNat];omega
theorem e4h(p:Nat→UInt8)(t:Nat):bits .or .u32 (bits .or .u32 (bits .or .u32 ((p (4 * t)).toNat % 4294967296 * 16777216 % 4294967296) ((p (4 * t + 1)).toNat % 4294967296 * 65536 % 4294967296)) ((p (4 * t + 2)).toNat % 4294967296 * 256 % 4294967296)) ((p (4 * t + 3)).toNat % 4294967296)=((wrdS p t).toNat:Int):=by
 have e1:∀x:B32,(x.toNat:Int) * (16777216:Int) % (4294967296:Int)=(((x <<< 24).toNat:Nat):Int):=fun x=>e4s x 24
 have e2:∀x:B32,(x.toNat:Int) * (65536:Int) % (4294967296:Int)=(((x <<< 16).toNat:Nat):Int):=fun x=>e4s x 16
 have e3:∀x:B32,(x.toNat:Int) * (256:Int) % (4294967296:Int)=(((x <<< 8).toNat:Nat):Int):=fun x=>e4s x 8
 rw [e0w,e0w,e0w,e0w,e1,e2,e3,bor,bor,bor];rfl
theorem rot17(x:B32)(w:World):Calls Tryz.prog 132 #[W32 x,.int .i64 (-17)] w fun e w'=>e= .returned (W32 (rl x 15))∧Kept [] w w':=a3g x (-17) 15 (by kernel_rfl) (by decide) w
theorem e5w(x:B32)(w:World):Calls Tryz.prog 132 #[W32 x,.int .i64 (-19)] w fun e w'=>e= .returned (W32 (rl x 13))∧Kept [] w w':=a3g x (-19) 13 (by kernel_rfl) (by decide) w
theorem rot7(x:B32)(w:World):Calls Tryz.prog 132 #[W32 x,.int .i64 (-7)] w fun e w'=>e= .returned (W32 (rl x 25))∧Kept [] w w':=a3g x (-7) 25 (by kernel_rfl) (by decide) w
theorem e6g(x:B32)(w:World):Calls Tryz.prog 132 #[W32 x,.int .i64 (-18)] w fun e w'=>e= .returned (W32 (rl x 14))∧Kept [] w w':=a3g x (-18) 14 (by kernel_rfl) (by decide) w
theorem rot6(x:B32)(w:World):Calls Tryz.prog 132 #[W32 x,.int .i64 (-6)] w fun e w'=>e= .returned (W32 (rl x 26))∧Kept [] w w':=a3g x (-6) 26 (by kernel_rfl) (by decide) w
theorem rot11(x:B32)(w:World):Calls Tryz.prog 132 #[W32 x,.int .i64 (-11)] w fun e w'=>e= .returned (W32 (rl x 21))∧Kept [] w w':=a3g x (-11) 21 (by kernel_rfl) (by decide) w
theorem rot25(x:B32)(w:World):Calls Tryz.prog 132 #[W32 x,.int .i64 (-25)] w fun e w'=>e= .returned (W32 (rl x 7))∧Kept [] w w':=a3g x (-25) 7 (by kernel_rfl) (by decide) w
theorem rot2(x:B32)(w:World):Calls Tryz.prog 132 #[W32 x,.int .i64 (-2)] w fun e w'=>e= .returned (W32 (rl x 30))∧Kept [] w w':=a3g x (-2) 30 (by kernel_rfl) (by decide) w
theorem rot13(x:B32)(w:World):Calls Tryz.prog 132 #[W32 x,.int .i64 (-13)] w fun e w'=>e= .returned (W32 (rl x 19))∧Kept [] w w':=a3g x (-13) 19 (by kernel_rfl) (by decide) w
theorem rot22(x:B32)(w:World):Calls Tryz.prog 132 #[W32 x,.int .i64 (-22)] w fun e w'=>e= .returned (W32 (rl x 10))∧Kept [] w w':=a3g x (-22) 10 (by kernel_rfl) (by decide) w
theorem shr10(x:B32):(x.toNat:Int) / (1024:Int)=(((x >>> 10).toNat:Nat):Int):=e5k x 10
theorem shr3(x:B32):(x.toNat:Int) / (8:Int)=(((x >>> 3).toNat:Nat):Int):=e5k x 3
theorem c5w(x y s7 s16:B32):((bits .xor .u32 (bits .xor .u32 (rl y 15).toNat (rl y 13).toNat) ((y.toNat:Int) / (1024:Int))) + (s7.toNat:Int) + bits .xor .u32 (bits .xor .u32 (rl x 25).toNat (rl x 14).toNat) ((x.toNat:Int) / (8:Int)) + (s16.toNat:Int)) % (4294967296:Int)=(((ls1 y + s7 + ls0 x + s16).toNat:Nat):Int):=by
 rw [shr10,shr3,b5h,b5h,b5h,b5h];unfold ls1 ls0;rw [BitVec.toNat_add,BitVec.toNat_add,BitVec.toNat_add];omega
theorem d7p(v7 e f g k m:B32):((v7.toNat:Int) + bits .xor .u32 (bits .xor .u32 (rl e 26).toNat (rl e 21).toNat) (rl e 7).toNat + bits .xor .u32 (bits .and .u32 e.toNat f.toNat) (bits .and .u32 (bits .xor .u32 IntKind.u32.max e.toNat) g.toNat) + (k.toNat:Int) + (m.toNat:Int)) % (4294967296:Int)=(((v7 + us1 e + chB e f g + k + m).toNat:Nat):Int):=by
 rw [show IntKind.u32.max=4294967295 from by decide,bnot,d5m,d5m,b5h,b5h,b5h];unfold us1 chB;rw [BitVec.toNat_add,BitVec.toNat_add,BitVec.toNat_add,BitVec.toNat_add];omega
theorem d2m(a b c:B32):(bits .xor .u32 (bits .xor .u32 (rl a 30).toNat (rl a 19).toNat) (rl a 10).toNat + bits .xor .u32 (bits .xor .u32 (bits .and .u32 a.toNat b.toNat) (bits .and .u32 a.toNat c.toNat)) (bits .and .u32 b.toNat c.toNat)) % (4294967296:Int)=(((us0 a + mjB a b c).toNat:Nat):Int):=by
 rw [d5m,d5m,d5m,b5h,b5h,b5h,b5h];unfold us0 mjB;rw [BitVec.toNat_add];omega
structure ShM (w0:World) (g2 g3 g6 g7 b o:Nat) (h m:Nat→B32) (rest:List UInt8) (u:World):Prop where
 B:ShB w0 g2 g3 g6 g7 h m u
 all:∀j v,(bv rest)[j]?=some v→u.cell? ⟨b,o + j,none⟩=some v
 n3:b≠g3
 n7:b≠g7
theorem ShM.rd{w0 u:World}{g2 g3 g6 g7 b o:Nat}{h m:Nat→B32}{rest:List UInt8}(t:ShM w0 g2 g3 g6 g7 b o h m rest u){j:Nat}(hj:j < rest.length):u.cell? ⟨b,o + j,none⟩=some (.int .u8 ((rest.getD j 0).toNat:Int)):=
 t.all j _ (by simp [a1z,hj,List.getD_eq_getElem?_getD])
theorem ShM.kept{w0 u u':World}{g2 g3 g6 g7 b o:Nat}{h m:Nat→B32}{rest:List UInt8}(t:ShM w0 g2 g3 g6 g7 b o h m rest u)(hk:Kept [] u u'):ShM w0 g2 g3 g6 g7 b o h m rest u':=⟨t.B.kept hk,fun j v hj=>hk.cell (t.all j v hj) (by simp),t.n3,t.n7⟩
theorem ShM.drew{w0 u:World}{g2 g3 g6 g7 b o:Nat}{h m:Nat→B32}{rest:List UInt8}(t:ShM w0 g2 g3 g6 g7 b o h m rest u):ShM w0 g2 g3 g6 g7 b o h m rest u.drew:=t.kept (Kept.refl [] u).drew
theorem ShM.set7{w0 u:World}{g2 g3 g6 g7 b o:Nat}{h m m':Nat→B32}{rest:List UInt8}{k:Nat}(t:ShM w0 g2 g3 g6 g7 b o h (mix m m' k) rest u):ShM w0 g2 g3 g6 g7 b o h (mix m m' (k + 1)) rest (u.setCell ⟨g7,k,none⟩ (W32 (m' k))):=
 ⟨⟨t.B.b2.far (t.B.b2.ne_ t.B.b7 (by decide)) _,t.B.b3.far (t.B.b3.ne_ t.B.b7 (by decide)) _,t.B.b6.far (t.B.b6.ne_ t.B.b7 (by decide)) _,t.B.b7.b2o,t.B.k.a0r ((Kept.refl [g7] u).setCell (.inl (by simp)) _) t.B.l7,t.B.l2,t.B.l3,t.B.l6,t.B.l7⟩,
  fun j v hj=>((Kept.refl [g7] u).setCell (p:=⟨g7,k,none⟩) (.inl (by simp)) (W32 (m' k))).cell (t.all j v hj) (by simpa using t.n7),t.n3,t.n7⟩
structure ShV (w0:World) (g2 g3 g6 g7 b o g13:Nat) (h m:Nat→B32) (rest:List UInt8) (v:Nat→B32) (u:World):Prop where
 M:ShM w0 g2 g3 g6 g7 b o h m rest u
 v:Blk u g13 176 ((fam 8 v).map W32).toArray
 n3:g3≠g13
 nb:b≠g13
 l:w0.heap.size≤g13
theorem ShV.kept{w0 u u':World}{g2 g3 g6 g7 b o g13:Nat}{h m v:Nat→B32}{rest:List UInt8}(t:ShV w0 g2 g3 g6 g7 b o g13 h m rest v u)(hk:Kept [] u u'):ShV w0 g2 g3 g6 g7 b o g13 h m rest v u':=⟨t.M.kept hk,t.v.kept hk (by simp),t.n3,t.nb,t.l⟩
theorem ShV.drew{w0 u:World}{g2 g3 g6 g7 b o g13:Nat}{h m v:Nat→B32}{rest:List UInt8}(t:ShV w0 g2 g3 g6 g7 b o g13 h m rest v u):ShV w0 g2 g3 g6 g7 b o g13 h m rest v u.drew:=t.kept (Kept.refl [] u).drew
theorem ShV.put{w0 u u':World}{g2 g3 g6 g7 b o g13:Nat}{h m v v':Nat→B32}{rest:List UInt8}(t:ShV w0 g2 g3 g6 g7 b o g13 h m rest v u)(hk:Kept [g13] u u')(hb:Blk u' g13 176 ((fam 8 v').map W32).toArray):ShV w0 g2 g3 g6 g7 b o g13 h m rest v' u':=
 ⟨⟨⟨t.M.B.b2.kept hk (by simpa using t.M.B.b2.ne_ t.v (by decide)),t.M.B.b3.kept hk (by simpa using t.n3),t.M.B.b6.kept hk (by simpa using t.M.B.b6.ne_ t.v (by decide)),t.M.B.b7.kept hk (by simpa using t.M.B.b7.ne_ t.v (by decide)),t.M.B.k.a0r hk t.l,t.M.B.l2,t.M.B.l3,t.M.B.l6,t.M.B.l7⟩,
  fun j v hj=>hk.cell (t.M.all j v hj) (by simpa using t.nb),t.M.n3,t.M.n7⟩,hb,t.n3,t.nb,t.l⟩
theorem ShV.set3{w0 u:World}{g2 g3 g6 g7 b o g13:Nat}{h h' m v:Nat→B32}{rest:List UInt8}{k:Nat}(t:ShV w0 g2 g3 g6 g7 b o g13 (mix h h' k) m rest v u):ShV w0 g2 g3 g6 g7 b o g13 (mix h h' (k + 1)) m rest v (u.setCell ⟨g3,k,none⟩ (W32 (h' k))):=by
 have hk:Kept [g3] u (u.setCell ⟨g3,k,none⟩ (W32 (h' k))):=(Kept.refl [g3] u).setCell (.inl (by simp)) _
 exact⟨⟨⟨t.M.B.b2.kept hk (by simpa using t.M.B.b2.ne_ t.M.B.b3 (by decide)),t.M.B.b3.b2o,t.M.B.b6.kept hk (by simpa using t.M.B.b6.ne_ t.M.B.b3 (by decide)),t.M.B.b7.kept hk (by simpa using t.M.B.b7.ne_ t.M.B.b3 (by decide)),t.M.B.k.a0r hk t.M.B.l3,t.M.B.l2,t.M.B.l3,t.M.B.l6,t.M.B.l7⟩,
  fun j v hj=>hk.cell (t.M.all j v hj) (by simpa using t.M.n3),t.M.n3,t.M.n7⟩,t.v.kept hk (by simpa using t.n3.symm),t.n3,t.nb,t.l⟩
structure ShA (w0:World) (g2 g3:Nat) (h:Nat→B32) (u:World):Prop where
 b2:Blk u g2 22 (bv (a0m 32)).toArray
 b3:Blk u g3 176 ((fam 8 h).map W32).toArray
 k:Kept [] w0 u
 l2:w0.heap.size≤g2
 l3:w0.heap.size≤g3
theorem ShA.kept{w0 u u':World}{g2 g3:Nat}{h:Nat→B32}(t:ShA w0 g2 g3 h u)(hk:Kept [] u u'):ShA w0 g2 g3 h u':=⟨t.b2.kept hk (by simp),t.b3.kept hk (by simp),t.k.a0g hk,t.l2,t.l3⟩
set_option maxHeartbeats 8000000 in
theorem c4n(pv:Value)(ps:List (Value × List UInt8))(w:World)(hp:Parts w pv ps)(hn:ps.length≤9223372036854775807)(hl:(a0z ps).length≤1000000000000) :
 Calls Tryz.prog 66 #[pv] w fun e w'=>e= .returned (ab (sha (a0z ps)))∧Kept [] w w':=by
 have cp:=hjd (fun u (h:Parts u pv ps)=>b3q pv ps u h hn hl);have hsha:sha (a0z ps)=c3k (b0r (pad (a0z ps)) ((pad (a0z ps)).length / 64)):=rfl;have hpl:(pad (a0z ps)).length≤1000000001000:=by
  have:=d1v (a0z ps).length;unfold pad;simp only [List.length_append,List.length_cons,List.length_replicate,a2h];omega
 obtain⟨N,hN⟩:∃N,(pad (a0z ps)).length=64 * N:=⟨(pad (a0z ps)).length / 64,by have:=c5h (a0z ps);omega⟩;rw [show(pad (a0z ps)).length / 64=N from by omega]at hsha;rw [hsha];clear hsha;generalize hpm:pad (a0z ps)=pm at *;replace hpm:=hjd hpm;have hNs:N≤100000000000:=by omega
 have hN':=hjd hN;have hpl':=hjd hpl;clear hN hpl;have P:=hjd hp;have cr:=hjd c0z;have ck:=hjd c2j;have hR:a6u.length=8:=rfl;generalize hRL:a6u=RL at cr hR;replace hRL:=hjd hRL;clear hp;go_enter Tryz.func66,Tryz.ntmps66;go_wp2_with (first
  | ((with_reducible refine a0h (o:=⟨some 2,_,_,_,_,_⟩) rfl rfl e2c ?_);intro g2 w2 m2)
  | ((with_reducible refine a0h (o:=⟨some 3,_,_,_,_,_⟩) rfl rfl w8z ?_);intro g3 w3 m3)
  | (go_at_call 129;(with_reducible refine(cr.out _).mono ?_);rintro e w4 ⟨rfl,kk⟩;have M:=hjd (show ShA w g2 g3 (fun _=>0) w4 from⟨(m2.blk.kept m3.kept (by simp)).kept kk (by simp),m3.blk.kept kk (by simp),(m2.kept.a0g m3.kept).a0g kk,m2.le,Nat.le_trans m2.kept.size m3.le⟩);clear m2 m3 kk))
 go_loopg [24] 8 (fun fu i wk=>∃k:Nat,k≤8∧fu + k=8∧i= .int .i64 (k:Int)∧Hid (ShA w g2 g3 (mix (fun _=>0) (fun i=>c5g (RL.getD i 0)) k) wk))
 case atStart=>exact⟨0,by omega,by omega,rfl,by have:=M;unfold mix;simpa using this⟩
 case round=>
  clear M;obtain⟨k,hk,hfu,rfl,M⟩:=hrel;by_cases hlt:k < 8
  ·have hlti:(k:Int) < 8:=by omega
   have hx:(uv RL).toArray[k]?=some (.int .u64 (RL.getD k 0:Nat)):=by
    have:k < RL.length:=by omega
    simp [uv,this]
   have hy:=e3l (RL.getD k 0);have hix:=e0x _ k _ hlt hx;clear hx;have q3:=M.out.b3.a8v k hlt;have f3:=M.out.b3.frozen k;generalize hrx:RL.getD k 0=rx at *;go_wp2_with fail;go_roundg (8 - (k + 1));case measure=>omega
   case rel=>
    have T:=M.out;have hb:=T.b3.b2o;rw [hrx]at hb;exact⟨k + 1,by omega,by omega,by go_num,hjd ⟨T.b2.far (T.b2.ne_ T.b3 (by decide)) _,hb,T.k.a0r ((Kept.refl [g3] wr).setCell (.inl (by simp)) _) T.l3,T.l2,T.l3⟩⟩
  ·obtain rfl:k=8:=by omega
   have hlti:¬((8:Nat):Int) < 8:=by omega
   have M2:=hjd (show ShA w g2 g3 (fun i=>c5g (RL.getD i 0)) wr from⟨M.out.b2,by have:=M.out.b3;rwa [a4s]at this,M.out.k,M.out.l2,M.out.l3⟩);clear M;go_wp2_with (first
    | (go_at_call 130;(with_reducible refine(ck.out _).mono ?_);rintro e w5 ⟨rfl,kk⟩;replace M2:=hjd (M2.out.kept kk);clear kk)
    | ((with_reducible refine a0h (o:=⟨some 6,_,_,_,_,_⟩) rfl rfl c80z ?_);intro g6 w6 m6;refine a0a (cs:=(uv a2f).toArray) (o:=⟨none,Op.store 178 (.tmp 6) (.tmp 34),_,_,_,_⟩) c80R rfl (.tmp 6) (.tmp 34) rfl rfl rfl m6.blk rfl rfl (d4d _) ?_;intro wb b6 k6;have kk:=m6.kept.a0r k6 m6.le;have L6:=hjd (Nat.le_trans M2.out.k.size m6.le);replace M2:=hjd (M2.out.kept kk);replace b6:=hjd b6;clear m6 k6 kk)
    | ((with_reducible refine a0h (o:=⟨some 7,_,_,_,_,_⟩) rfl rfl m64z ?_);intro g7 w7 m7;have M:=hjd (show ShB w g2 g3 g6 g7 (fun i=>c5g (RL.getD i 0)) (fun _=>0) w7 from⟨M2.out.b2.kept m7.kept (by simp),M2.out.b3.kept m7.kept (by simp),b6.out.kept m7.kept (by simp),m7.blk,M2.out.k.a0g m7.kept,M2.out.l2,M2.out.l3,L6.out,Nat.le_trans M2.out.k.size m7.le⟩);have ML3:=hjd (show g3 < w7.heap.size from M.out.b3.lt);have ML7:=hjd (show g7 < w7.heap.size from M.out.b7.lt);clear m7 b6 M2)
    | (go_at_call 131;(with_reducible refine(cp.out _ (P.out.a0k M.out.k)).mono ?_);rintro e w8 ⟨pv2,rfl,hN⟩;replace M:=hjd (show ShB w g2 g3 g6 g7 (fun i=>c5g (RL.getD i 0)) (fun _=>0) w8 from M.out.kept hN.kept);obtain⟨A8,c8,rfl,_⟩:=hN.ow.shape;have RB:=hjd (Rd.a6w hN.ow)
       have FB:=hjd (show∀b,(Value.slice A8 pm.length c8).ownBlock=some b→b≠g3∧b≠g7 from fun b hb=>by
        rcases hN.near with e | ⟨g,e,hg⟩
        ·rw [e]at hb;cases hb
        ·rw [e]at hb;cases hb
         have h3:=ML3.out;have h7:=ML7.out;omega)
       clear hN))
   have e64:=hN'.out;rw [e64]at RB FB ⊢;clear e64;go_loopg [8] N (fun fu o wk=>∃(n:Nat) (A:Option Addr) (c:Nat) (mm:Nat→B32),n≤N∧fu + n=N∧o= .slice A (64 * (N - n)) c∧Hid (Rd wk 1 (.slice A (64 * (N - n)) c) (64 * (N - n)) (bv (pm.drop (64 * n))))∧Hid (ShB w g2 g3 g6 g7 (b0r pm n) mm wk)∧Hid (0 < N - n→∀b,(Value.slice A (64 * (N - n)) c).ownBlock=some b→b≠g3∧b≠g7));case atStart=>
    refine⟨0,A8,c8,fun _=>0,by omega,by omega,rfl,by simpa using RB,?_,hjd (fun _=>FB.out)⟩;have:=M;rw [←hRL.out]at this;exact this
   case round=>
    clear M RB FB;obtain⟨n,A,c,mm,hn8,hfu8,rfl,RB,M,FB⟩:=hrel;by_cases hlt8:n < N
    ·have hL0:0 < 64 * (N - n):=by omega
     obtain⟨b,o,c',hA,hcb,hcell⟩:=RB.out.at_ hL0
     cases hA
     have hfb:=FB.out (by omega) b rfl;have M':=hjd (show ShM w g2 g3 g6 g7 b o (b0r pm n) mm (pm.drop (64 * n)) wr from⟨M.out,hcell,hfb.1,hfb.2⟩);have hrl:=hjd (show 64≤(pm.drop (64 * n)).length from by rw [List.length_drop,hN'.out];omega);have hp:=hjd (show(fun j=>(pm.drop (64 * n)).getD j 0)=(fun j=>pm.getD (64 * n + j) 0)from by funext j;simp [List.getD_eq_getElem?_getD,List.getElem?_drop]);clear M hcell RB FB hfb;generalize hre:pm.drop (64 * n)=rest at *;replace hre:=hjd hre;obtain⟨p,hpp⟩:∃p:Nat→UInt8,p=fun j=>rest.getD j 0:=⟨_,rfl⟩
     have hpj:=hjd (show∀j,rest.getD j 0=p j from fun j=>by rw [hpp]);rw [←hpp]at hp;clear hpp;have hLn:∃L,L=64 * (N - n)∧64≤L∧L≤10000000000000:=⟨_,rfl,by omega,by omega⟩;obtain⟨L,hL,hL1,hL2⟩:=hLn;rw [←hL];replace hL:=hjd hL;clear hL0;have hLp:(0 < L)=True:=eq_true (by omega);have hLp2:((0:Int) < (L:Int))=True:=eq_true (by omega);go_wp2_with fail;go_loopg [42] 16 (fun fu i wk=>∃t:Nat,t≤16∧fu + t=16∧i= .int .i64 (t:Int)∧Hid (ShM w g2 g3 g6 g7 b o (b0r pm n) (mix mm (sch p) t) rest wk));case atStart=>exact⟨0,by omega,by omega,rfl,by have:=M';unfold mix;simpa using this⟩
     case round=>
      clear M';obtain⟨t,ht,hfu16,rfl,M⟩:=hrel;by_cases hlt16:t < 16
      ·--<
       go_wp2_with fail
       refine Txt.b2l [] (fun _=>True) [_,_,_,_,_,_,_,_,_,_,_,_,_,_,_,_,_,_,_,_,_,_,_,_,_,_,_,_,_,_,_,_,_,_,_] _ rfl [[_,_,_,_,_,_,_,_,_,_,_,_,_,_,_,_,_,_,_,_,_,_,_,_,_,_,_,_,_,_,_,_,_,_,_]] (by kernel_rfl) (by kernel_rfl) (by kernel_rfl) rfl trivial (Txt.a0e ?_);have c0:wr.cell? ⟨b,o + (4 * t),none⟩=some (.int .u8 ((p (4 * t)).toNat:Int)):=by rw [←hpj.out];exact M.out.rd (by have:=hrl.out;omega)
       have c1:wr.cell? ⟨b,o + (4 * t + 1),none⟩=some (.int .u8 ((p (4 * t + 1)).toNat:Int)):=by rw [←hpj.out];exact M.out.rd (by have:=hrl.out;omega)
       have c2:wr.cell? ⟨b,o + (4 * t + 2),none⟩=some (.int .u8 ((p (4 * t + 2)).toNat:Int)):=by rw [←hpj.out];exact M.out.rd (by have:=hrl.out;omega)
       have c3:wr.cell? ⟨b,o + (4 * t + 3),none⟩=some (.int .u8 ((p (4 * t + 3)).toNat:Int)):=by rw [←hpj.out];exact M.out.rd (by have:=hrl.out;omega)
       have q7:=M.out.B.b7.a8v t (by omega);have f7:=M.out.B.b7.frozen t;go_wp2_with fail;refine⟨rfl,trivial,Txt.a0w ⟨⟨by kernel_rfl,fun j hj=>absurd hj (by simp)⟩,?_⟩⟩;have hw:=e4h p t;go_wp2_with fail;go_roundg (16 - (t + 1));case measure=>omega
       case rel=>
        rw [←c1q p hlt16];exact⟨t + 1,by omega,by omega,by go_num,hjd M.out.set7.drew⟩
      ·obtain rfl:t=16:=by omega
       go_wp2_with fail
       go_loopg [10] 48 (fun fu i wk=>∃t:Nat,16≤t∧t≤64∧fu + t=64∧i= .int .i64 (t:Int)∧Hid (ShM w g2 g3 g6 g7 b o (b0r pm n) (mix mm (sch p) t) rest wk))
       case atStart=>exact⟨16,by omega,by omega,by omega,rfl,M⟩
       case round=>
        clear M;obtain⟨t,ht16,ht,hfu64,rfl,M⟩:=hrel;by_cases hlt64:t < 64
        ·--<
         have e15:(t:Int) - 15=((t - 15:Nat):Int):=by omega
         have e2:(t:Int) - 2=((t - 2:Nat):Int):=by omega
         have e7:(t:Int) - 7=((t - 7:Nat):Int):=by omega
         have e16:(t:Int) - 16=((t - 16:Nat):Int):=by omega
         have hs:=hjd (c2q p (t:=t) (by omega));have cell:=fun(u:World) (hu:ShM w g2 g3 g6 g7 b o (b0r pm n) (mix mm (sch p) t) rest u) (j:Nat) (hj:j < t)=>(show u.cell? ⟨g7,j,none⟩=some (W32 (sch p j))from by rw [hu.B.b7.a8v j (by omega),c0g _ _ hj])
         have l15:t - 15 < t∧t - 15 < 64:=by omega
         have l2:t - 2 < t∧t - 2 < 64:=by omega
         have l7:t - 7 < t∧t - 7 < 64:=by omega
         have l16:t - 16 < t∧t - 16 < 64:=by omega
         generalize t - 15=a15 at *;generalize t - 2=a2 at *;generalize t - 7=a7 at *;generalize t - 16=a16 at *;have c15:=cell _ M.out _ l15.1;have c2:=cell _ M.out _ l2.1;have k15:=l15.2;have k2:=l2.2;have k7:=l7.2;have k16:=l16.2;replace cell:=hjd cell;replace l15:=hjd l15;replace l2:=hjd l2;replace l7:=hjd l7;replace l16:=hjd l16;go_wp2_with fail;refine Txt.a2g (by kernel_rfl) (by kernel_rfl) ?_;go_wp2_with fail;refine⟨rfl,by kernel_rfl,?_⟩;replace M:=hjd (M.out.drew);clear c15 c2;go_wp2_with fail;generalize sch p a15=x at *;generalize sch p a2=y at *;replace M:=hjd M.out.drew;refine Txt.b2l [12,26] (ShM w g2 g3 g6 g7 b o (b0r pm n) (mix mm (sch p) t) rest) [_,_,_,_,_,_,_,_,_,_,_,_,_,_,_,_,_,_,_,_,_,_,_,_,_,_,_,_,_] _ rfl [[_,_,_],[_,_],[_,_,_,_,_,_,_,_,_,_,_],[_,_],[_,_,_,_,_,_,_,_,_,_,_]] (by kernel_rfl) (by kernel_rfl) (by kernel_rfl) rfl M.out (Txt.a0e ?_);go_wp2_with (go_at_call 132;(with_reducible refine(rot17 _ _).mono ?_);rintro e w1 ⟨rfl,kk⟩;replace M:=hjd (M.out.kept kk);clear kk);refine⟨rfl,M.out,Txt.a0e ?_⟩;go_wp2_with (go_at_call 132;(with_reducible refine(e5w _ _).mono ?_);rintro e w1 ⟨rfl,kk⟩;replace M:=hjd (M.out.kept kk);clear kk);refine⟨rfl,M.out,Txt.a0e ?_⟩;have c7:=cell.out _ M.out _ l7.out.1;go_wp2_with (go_at_call 132;(with_reducible refine(rot7 _ _).mono ?_);rintro e w1 ⟨rfl,kk⟩;replace M:=hjd (M.out.kept kk);clear kk);clear c7;refine⟨rfl,M.out,Txt.a0e ?_⟩
         go_wp2_with (go_at_call 132;(with_reducible refine(e6g _ _).mono ?_);rintro e w1 ⟨rfl,kk⟩;replace M:=hjd (M.out.kept kk);clear kk)
         refine⟨rfl,M.out,Txt.a0e ?_⟩;have c7:=cell.out _ M.out _ l7.out.1;have c16:=cell.out _ M.out _ l16.out.1;go_wp2_with fail;refine⟨rfl,M.out,Txt.a0w ⟨⟨by kernel_rfl,?_⟩,?_⟩⟩
         ·intro j hj o ho hw;have hj2:j=12∨j=26:=by simpa using hj
          rcases hj2 with rfl | rfl <;> cases ho
          ·exact⟨_,rfl,fun u hu=>a2y (.tmp 104) rfl b0q rfl (cell.out u hu _ l7.out.1)⟩
          ·exact⟨_,rfl,fun u hu=>a2y (.tmp 118) rfl b0q rfl (cell.out u hu _ l16.out.1)⟩
         clear c7 c16;have q7:=M.out.B.b7.a8v t (by omega);have f7:=M.out.B.b7.frozen t;have hv:=c5w x y (sch p a7) (sch p a16);rw [←hs.out]at hv;go_wp2_with fail;go_roundg (64 - (t + 1));case measure=>omega
         case rel=>exact⟨t + 1,by omega,by omega,by omega,by go_num,M.out.set7⟩
        ·obtain rfl:t=64:=by omega
         have M1:=hjd (show ShM w g2 g3 g6 g7 b o (b0r pm n) (sch p) rest wr from⟨⟨M.out.B.b2,M.out.B.b3,M.out.B.b6,by have:=M.out.B.b7;rwa [a4s]at this,M.out.B.k,M.out.B.l2,M.out.B.l3,M.out.B.l6,M.out.B.l7⟩,M.out.all,M.out.n3,M.out.n7⟩);clear M;generalize hbn:b0r pm n=hA at *;replace hbn:=hjd hbn;go_wp2_with (first
          | (with_reducible refine a0f 122 ?_;refine a0d (o:=⟨some 122,_,_,_,_,_⟩) w8R rfl (.tmp 3) rfl rfl M1.out.B.b3 (by simp [fam]) ?_)
          | ((with_reducible refine a0h (o:=⟨some 13,_,_,_,_,_⟩) rfl rfl w8z ?_);intro g13 w13 m13;refine a0a (cs:=((fam 8 hA).map W32).toArray) (o:=⟨none,Op.store 176 (.tmp 13) (.tmp 122),_,_,_,_⟩) w8R rfl (.tmp 13) (.tmp 122) rfl rfl rfl m13.blk rfl rfl (d4w _) ?_;intro wb b13 k13;have M:=hjd (show ShV w g2 g3 g6 g7 b o g13 hA (sch p) rest hA wb from⟨M1.out.kept (m13.kept.a0r k13 m13.le),b13,fun e=>by have:=M1.out.B.b3.lt;have:=m13.le;omega,fun e=>by have:=World.block_lt_of_cell? wr _ (M1.out.rd (j:=0) (by have:=hrl.out;omega));have h2:=m13.le;simp only at this;omega,Nat.le_trans M1.out.B.k.size m13.le⟩);clear m13 b13 k13 M1))
         go_loopg [123] 64 (fun fu i wk=>∃t:Nat,t≤64∧fu + t=64∧i= .int .i64 (t:Int)∧Hid (ShV w g2 g3 g6 g7 b o g13 hA (sch p) rest (a3z p hA t) wk))
         case atStart=>exact⟨0,by omega,by omega,rfl,M⟩
         case round=>
          clear M;obtain⟨t,ht,hfut,rfl,M⟩:=hrel;by_cases hlt5:t < 64
          ·--<
           have hrn:=hjd (show a3z p hA (t + 1)=rnd (c5g (a2f.getD t 0)) (sch p t) (a3z p hA t)from rfl);have k1:=e3l (a2f.getD t 0);have k2:((a2f.getD t 0:Nat):Int) / 4294967296 % 4294967296=((c5g (a2f.getD t 0)).toNat:Nat):=by rw [←k1,IntKind.wrap_u32]
           have cellv:=fun(u:World) (hu:ShV w g2 g3 g6 g7 b o g13 hA (sch p) rest (a3z p hA t) u) (j:Nat) (hj:j < 8)=>(show u.cell? ⟨g13,j,none⟩=some (W32 (a3z p hA t j))from hu.v.a8v j hj)
           have cellm:=fun(u:World) (hu:ShV w g2 g3 g6 g7 b o g13 hA (sch p) rest (a3z p hA t) u)=>(show u.cell? ⟨g7,t,none⟩=some (W32 (sch p t))from hu.M.B.b7.a8v t hlt5)
           have cellk:=fun(u:World) (hu:ShV w g2 g3 g6 g7 b o g13 hA (sch p) rest (a3z p hA t) u)=>(show u.cell? ⟨g6,t,none⟩=some (.int .u64 ((a2f.getD t 0:Nat):Int))from by
            have hl80:t < a2f.length:=by rw [show a2f.length=80 from rfl];omega
            rw [hu.M.B.b6.uget t hl80,List.getD_eq_getElem?_getD,List.getElem?_eq_getElem hl80];rfl)
           replace cellv:=hjd cellv;replace cellm:=hjd cellm;replace cellk:=hjd cellk;generalize a2f.getD t 0=kt at *;generalize c5g kt=kh at *;generalize hmt:sch p t=mt at *;generalize hvv:a3z p hA t=v at *;replace hmt:=hjd hmt;replace hvv:=hjd hvv;obtain⟨T1,hT1⟩:∃x,x=v 7 + us1 (v 4) + chB (v 4) (v 5) (v 6) + kh + mt:=⟨_,rfl⟩;obtain⟨T2,hT2⟩:∃x,x=us0 (v 0) + mjB (v 0) (v 1) (v 2):=⟨_,rfl⟩;have hv1:=d7p (v 7) (v 4) (v 5) (v 6) kh mt;have hv2:=d2m (v 0) (v 1) (v 2);rw [←hT1]at hv1;rw [←hT2]at hv2;replace hT1:=hjd hT1;replace hT2:=hjd hT2;generalize hz0:v 0=z0 at *;generalize hz1:v 1=z1 at *;generalize hz2:v 2=z2 at *;generalize hz3:v 3=z3 at *;generalize hz4:v 4=z4 at *;generalize hz5:v 5=z5 at *;generalize hz6:v 6=z6 at *;generalize hz7:v 7=z7 at *;have hz:=hjd (And.intro hz0 (And.intro hz1 (And.intro hz2 (And.intro hz3 (And.intro hz4 (And.intro hz5 (And.intro hz6 hz7)))))));have cell0:=hjd (fun(u:World) (hu:ShV w g2 g3 g6 g7 b o g13 hA (sch p) rest v u)=>(show u.cell? ⟨g13,0,none⟩=some (W32 z0)from by rw [←hz0];exact cellv.out u hu 0 (by decide)));have cell1:=hjd (fun(u:World) (hu:ShV w g2 g3 g6 g7 b o g13 hA (sch p) rest v u)=>(show u.cell? ⟨g13,1,none⟩=some (W32 z1)from by rw [←hz1];exact cellv.out u hu 1 (by decide)));have cell2:=hjd (fun(u:World) (hu:ShV w g2 g3 g6 g7 b o g13 hA (sch p) rest v u)=>(show u.cell? ⟨g13,2,none⟩=some (W32 z2)from by rw [←hz2];exact cellv.out u hu 2 (by decide)))
           have cell3:=hjd (fun(u:World) (hu:ShV w g2 g3 g6 g7 b o g13 hA (sch p) rest v u)=>(show u.cell? ⟨g13,3,none⟩=some (W32 z3)from by rw [←hz3];exact cellv.out u hu 3 (by decide)));have cell4:=hjd (fun(u:World) (hu:ShV w g2 g3 g6 g7 b o g13 hA (sch p) rest v u)=>(show u.cell? ⟨g13,4,none⟩=some (W32 z4)from by rw [←hz4];exact cellv.out u hu 4 (by decide)));have cell5:=hjd (fun(u:World) (hu:ShV w g2 g3 g6 g7 b o g13 hA (sch p) rest v u)=>(show u.cell? ⟨g13,5,none⟩=some (W32 z5)from by rw [←hz5];exact cellv.out u hu 5 (by decide)));have cell6:=hjd (fun(u:World) (hu:ShV w g2 g3 g6 g7 b o g13 hA (sch p) rest v u)=>(show u.cell? ⟨g13,6,none⟩=some (W32 z6)from by rw [←hz6];exact cellv.out u hu 6 (by decide)));have c0w:=hjd (fun(u:World) (hu:ShV w g2 g3 g6 g7 b o g13 hA (sch p) rest v u)=>(show u.cell? ⟨g13,7,none⟩=some (W32 z7)from by rw [←hz7];exact cellv.out u hu 7 (by decide)));clear cellv hz0 hz1 hz2 hz3 hz4 hz5 hz6 hz7;have q0:=cell0.out _ M.out;have q4:=cell4.out _ M.out;go_wp2_with fail;refine Txt.a2g (by kernel_rfl) (by kernel_rfl) ?_;go_wp2_with fail;refine⟨rfl,by kernel_rfl,?_⟩;clear q0 q4;replace M:=hjd M.out.drew;go_wp2_with fail;replace M:=hjd M.out.drew;refine Txt.a1k [1,13,18,24,30] (ShV w g2 g3 g6 g7 b o g13 hA (sch p) rest v) [[_,_,_,_],[_,_],[_,_,_],[_,_,_,_,_,_,_,_,_,_,_,_,_,_,_,_,_,_,_,_,_,_,_,_]] (by kernel_rfl) (by kernel_rfl) rfl M.out (Txt.a0e ?_);have q7:=c0w.out _ M.out
           go_wp2_with (go_at_call 132;(with_reducible refine(rot6 _ _).mono ?_);rintro e w1 ⟨rfl,kk⟩;replace M:=hjd (M.out.kept kk);clear kk)
           clear q7;refine⟨rfl,M.out,Txt.a0e ?_⟩;go_wp2_with (go_at_call 132;(with_reducible refine(rot11 _ _).mono ?_);rintro e w1 ⟨rfl,kk⟩;replace M:=hjd (M.out.kept kk);clear kk);refine⟨rfl,M.out,Txt.a0e ?_⟩;go_wp2_with (go_at_call 132;(with_reducible refine(rot25 _ _).mono ?_);rintro e w1 ⟨rfl,kk⟩;replace M:=hjd (M.out.kept kk);clear kk);refine⟨rfl,M.out,Txt.a0e ?_⟩;have q5:=cell5.out _ M.out;have q6:=cell6.out _ M.out;have qk:=cellk.out _ M.out;have qm:=cellm.out _ M.out;go_wp2_with fail;refine⟨rfl,M.out,Txt.a0w ⟨⟨by kernel_rfl,?_⟩,?_⟩⟩
           ·intro j hj o ho hw;have hj2:j=1∨j=13∨j=18∨j=24∨j=30:=by simpa using hj
            rcases hj2 with rfl | rfl | rfl | rfl | rfl <;> cases ho
            ·exact⟨_,rfl,fun u hu=>a2y (.tmp 130) rfl b0q rfl (c0w.out u hu)⟩
            ·exact⟨_,rfl,fun u hu=>a2y (.tmp 142) rfl b0q rfl (cell5.out u hu)⟩
            ·exact⟨_,rfl,fun u hu=>a2y (.tmp 147) rfl b0q rfl (cell6.out u hu)⟩
            ·exact⟨_,rfl,fun u hu=>a2y (.tmp 153) rfl d1e rfl (cellk.out u hu)⟩
            ·exact⟨_,rfl,fun u hu=>a2y (.tmp 159) rfl b0q rfl (cellm.out u hu)⟩
           clear q5 q6 qk qm;go_wp2_with fail;clear hv1;replace M:=hjd M.out.drew;refine Txt.a1k [10,14,18,20] (ShV w g2 g3 g6 g7 b o g13 hA (sch p) rest v) [[_,_],[_,_],[_,_,_],[_,_,_,_,_,_,_,_,_,_,_,_,_,_,_,_,_,_]] (by kernel_rfl) (by kernel_rfl) rfl M.out (Txt.a0e ?_);go_wp2_with (go_at_call 132;(with_reducible refine(rot2 _ _).mono ?_);rintro e w1 ⟨rfl,kk⟩;replace M:=hjd (M.out.kept kk);clear kk);refine⟨rfl,M.out,Txt.a0e ?_⟩;go_wp2_with (go_at_call 132;(with_reducible refine(rot13 _ _).mono ?_);rintro e w1 ⟨rfl,kk⟩;replace M:=hjd (M.out.kept kk);clear kk);refine⟨rfl,M.out,Txt.a0e ?_⟩;go_wp2_with (go_at_call 132;(with_reducible refine(rot22 _ _).mono ?_);rintro e w1 ⟨rfl,kk⟩;replace M:=hjd (M.out.kept kk);clear kk);refine⟨rfl,M.out,Txt.a0e ?_⟩;have q1:=cell1.out _ M.out;have q2:=cell2.out _ M.out;go_wp2_with fail;refine⟨rfl,M.out,Txt.a0w ⟨⟨by kernel_rfl,?_⟩,?_⟩⟩
           ·intro j hj o ho hw;have hj2:j=10∨j=14∨j=18∨j=20:=by simpa using hj
            rcases hj2 with rfl | rfl | rfl | rfl <;> cases ho
            ·exact⟨_,rfl,fun u hu=>a2y (.tmp 171) rfl b0q rfl (cell1.out u hu)⟩
            ·exact⟨_,rfl,fun u hu=>a2y (.tmp 175) rfl b0q rfl (cell2.out u hu)⟩
            ·exact⟨_,rfl,fun u hu=>a2y (.tmp 179) rfl b0q rfl (cell1.out u hu)⟩
            ·exact⟨_,rfl,fun u hu=>a2y (.tmp 181) rfl b0q rfl (cell2.out u hu)⟩
           rw [hv2];clear hv2;have q0:=cell0.out _ M.out;have q3:=cell3.out _ M.out;have q4:=cell4.out _ M.out;have q5:=cell5.out _ M.out;have q6:=cell6.out _ M.out;obtain⟨S0,hS0⟩:∃x,x=T1 + T2:=⟨_,rfl⟩;obtain⟨S4,hS4⟩:∃x,x=z3 + T1:=⟨_,rfl⟩;have hs0:=c4o T1 T2;have hs4:=c4o z3 T1;rw [←hS0]at hs0;rw [←hS4]at hs4;have hs0':((T1.toNat:Int) + (T2.toNat:Int)) % 4294967296=(S0.toNat:Int):=by rw [←hs0,IntKind.wrap_u32]
           have hs4':((z3.toNat:Int) + (T1.toNat:Int)) % 4294967296=(S4.toNat:Int):=by rw [←hs4,IntKind.wrap_u32]
           replace hS0:=hjd hS0;replace hS4:=hjd hS4;go_wp2_with (first
            | ((with_reducible refine a0f 205 ?_);refine a0p (v:=.agg (([S0,z0,z1,z2,S4,z4,z5,z6]:List B32).map W32).toArray) rfl (by kernel_rfl) ?_)
            | ((with_reducible refine a6c (.tmp 13) (.tmp 205) ?_);refine a0a (cs:=(([S0,z0,z1,z2,S4,z4,z5,z6]:List B32).map W32).toArray) (o:=⟨none,Op.store 176 (.tmp 13) (.tmp 205),_,_,_,_⟩) w8R rfl (.tmp 13) (.tmp 205) rfl rfl rfl M.out.v (by simp [fam]) (by simp) (d4w _) ?_;intro wb b13 k13
               have M1:=hjd (show ShV w g2 g3 g6 g7 b o g13 hA (sch p) rest (rnd kh mt v) wb from M.out.put k13 (by
                obtain⟨z0',z1',z2',z3',z4',z5',z6',z7'⟩:=hz.out;have e:(([S0,z0,z1,z2,S4,z4,z5,z6]:List B32).map W32).toArray=((fam 8 (rnd kh mt v)).map W32).toArray:=by
                 rw [hS0.out,hS4.out,hT1.out,hT2.out,←z0',←z1',←z2',←z3',←z4',←z5',←z6',←z7'];rfl
                rw [←e];exact b13))
               clear b13 k13 M q0 q1 q2 q3 q4 q5 q6))
           go_roundg (64 - (t + 1));case measure=>omega
           case rel=>
            refine⟨t + 1,by omega,by omega,by go_num,?_⟩;rw [hrn.out];exact M1
          ·obtain rfl:t=64:=by omega
           generalize hvv:a3z p hA 64=v at *;replace hvv:=hjd hvv;go_wp2_with fail;go_loopg [207] 8 (fun fu i wk=>∃k:Nat,k≤8∧fu + k=8∧i= .int .i64 (k:Int)∧Hid (ShV w g2 g3 g6 g7 b o g13 (mix hA (fun i=>hA i + v i) k) (sch p) rest v wk));case atStart=>exact⟨0,by omega,by omega,rfl,by have:=M;unfold mix;simpa using this⟩
           case round=>
            clear M;obtain⟨k,hk6,hfu6,rfl,M⟩:=hrel;by_cases hlt6:k < 8
            ·--<
             have q3:wr.cell? ⟨g3,k,none⟩=some (W32 (hA k)):=by rw [M.out.M.B.b3.a8v k hlt6,c4i _ _ (Nat.le_refl _)]
             have f3:=M.out.M.B.b3.frozen k;have q13:=M.out.v.a8v k hlt6;have hs0:=c4o (hA k) (v k);obtain⟨S,hS⟩:∃x,x=hA k + v k:=⟨_,rfl⟩;rw [←hS]at hs0;have hs0':(((hA k).toNat:Int) + ((v k).toNat:Int)) % 4294967296=(S.toNat:Int):=by rw [←hs0,IntKind.wrap_u32]
             replace hS:=hjd hS;go_wp2_with fail;refine Txt.b2l [] (fun _=>True) [_,_,_,_,_,_,_,_] _ rfl [[_,_,_,_,_,_,_,_]] (by kernel_rfl) (by kernel_rfl) (by kernel_rfl) rfl trivial (Txt.a0e ?_);go_wp2_with fail;refine⟨rfl,trivial,Txt.a0w ⟨⟨by kernel_rfl,fun j hj=>absurd hj (by simp)⟩,?_⟩⟩;go_wp2_with fail;go_roundg (8 - (k + 1));case measure=>omega
             case rel=>
              refine⟨k + 1,by omega,by omega,by go_num,?_⟩;rw [hS.out];exact hjd M.out.set3.drew
            ·obtain rfl:k=8:=by omega
             have hb:=M.out.M.B.b3;rw [a4s]at hb;have hbk:(fun i=>hA i + v i)=b0r pm (n + 1):=by
              rw [←hvv.out,←hbn.out,hp.out];rfl
             rw [hbk]at hb;have B:=hjd (show ShB w g2 g3 g6 g7 (b0r pm (n + 1)) (sch p) wr from⟨M.out.M.B.b2,hb,M.out.M.B.b6,M.out.M.B.b7,M.out.M.B.k,M.out.M.B.l2,M.out.M.B.l3,M.out.M.B.l6,M.out.M.B.l7⟩);have R:=hjd (show Rd wr 1 (.slice (some ⟨b,o,none⟩) L c) L (bv rest)from⟨_,_,rfl,by rw [List.length_map,←hre.out,List.length_drop,hN'.out,hL.out];omega,by rw [hL.out];exact hcb,fun _=>⟨b,o,rfl,M.out.M.all⟩⟩);have nb:=hjd (And.intro M.out.M.n3 M.out.M.n7);clear hb M hbk;obtain⟨X,d,hX,rX,oX,_⟩:=c9c a1x R.out .i64 64 hL1;have hX2:∀W,(Instr.sliceAt 23 (.slice (some ⟨b,o,none⟩) L c) (some (.int .i64 64)) none none).run Tryz.prog W= .ok (.slice X (L - 64) d) W:=hX;have rX2:=hjd rX;have oX2:=hjd oX;clear hX rX oX;generalize hLm:L - 64=L6 at *;replace hLm:=hjd hLm;go_wp2_with fail;go_roundg (N - (n + 1));case measure=>omega
             case rel=>
              have eL:L6=64 * (N - (n + 1)):=by rw [←hLm.out,hL.out];omega
              refine⟨n + 1,X,d,sch p,by omega,by omega,by rw [eL],?_,B,?_⟩
              ·rw [←eL,show 64 * (n + 1)=64 * n + 64 from by omega,←List.drop_drop,hre.out];have e:=rX2.out;rw [←List.map_drop]at e;exact hjd e
              ·rw [←eL];refine hjd fun hpos bb hbb=>?_
               rw [oX2.out (by rw [eL];omega)]at hbb
               cases hbb
               exact nb.out
    ·obtain rfl:n=N:=by omega
     generalize hH:b0r pm n=H at *;replace hH:=hjd hH;have e0:64 * (n - n)=0:=by omega
     rw [e0]at RB ⊢;clear e0;have Z:=hjd M.out;clear M RB FB;go_wp2_with (first
      | ((with_reducible refine a0h (o:=⟨some 20,_,_,_,_,_⟩) rfl rfl e2c ?_);intro g20 w20 m20;have Z2:=hjd (Z.out.kept m20.kept)
         have b20:=hjd (show Blk w20 g20 22 ((fam 32 (mix (fun _=>0) (b2v H) (4 * 0))).map a1z).toArray from by
          have e:((fam 32 (mix (fun _=>(0:UInt8)) (b2v H) (4 * 0))).map a1z)=bv (a0m 32):=by rw [show 4 * 0=0 from rfl,b0e];rfl
          rw [e];exact m20.blk)
         have l20:=hjd (Nat.le_trans Z.out.k.size m20.le);have n20:=hjd (show g2≠g20 from fun e=>by have:=Z.out.b2.lt;have:=m20.le;omega);clear m20 Z)
      | (with_reducible refine a0f 219 ?_;refine a0d (o:=⟨some 219,_,_,_,_,_⟩) w8R rfl (.tmp 3) rfl rfl Z2.out.b3 (by simp [fam]) ?_))
     have K:=hjd Z2.out.k;have B2:=hjd Z2.out.b2;have l2:=hjd Z2.out.l2;clear Z2;go_loopg [220] 8 (fun fu i wk=>∃k:Nat,k≤8∧fu + k=8∧i= .int .i64 (k:Int)∧Hid (Blk wk g20 22 ((fam 32 (mix (fun _=>0) (b2v H) (4 * k))).map a1z).toArray)∧Hid (Kept [] w wk)∧Hid (Blk wk g2 22 (bv (a0m 32)).toArray));case atStart=>exact⟨0,by omega,by omega,rfl,b20,K,B2⟩
     case round=>
      clear b20 K B2;obtain⟨k,hk7,hfu7,rfl,b20,K,B2⟩:=hrel;by_cases hlt7:k < 8
      ·have hx:((fam 8 H).map W32).toArray[k]?=some (W32 (H k)):=by simp [fam,hlt7]
       have hix:=b9s _ k _ hlt7 hx;clear hx;have d0:((H k).toNat:Int) / 16777216 % 256=((b2v H (4 * k)).toNat:Int):=b7p H k 0 (by decide) 16777216 rfl;have d0b:((H k).toNat:Int) / 16777216=((b2v H (4 * k)).toNat:Int):=by
        have:=(H k).isLt;rw [←d0];omega
       have d1:((H k).toNat:Int) / 65536 % 256=((b2v H (4 * k + 1)).toNat:Int):=b7p H k 1 (by decide) 65536 rfl;have d2:((H k).toNat:Int) / 256 % 256=((b2v H (4 * k + 2)).toNat:Int):=b7p H k 2 (by decide) 256 rfl;have d3:((H k).toNat:Int) % 256=((b2v H (4 * k + 3)).toNat:Int):=by
        have:=b7p H k 3 (by decide) 1 rfl;simpa using this
       have f0:=b20.out.frozen (4 * k);have f1:=b20.out.frozen (4 * k + 1);have f2:=b20.out.frozen (4 * k + 2);have f3:=b20.out.frozen (4 * k + 3);obtain⟨y0,q0⟩:∃y,wr.cell? ⟨g20,4 * k,none⟩=some y:=⟨_,b20.out.a8v (4 * k) (by omega)⟩;obtain⟨y1,q1⟩:∃y,wr.cell? ⟨g20,4 * k + 1,none⟩=some y:=⟨_,b20.out.a8v (4 * k + 1) (by omega)⟩;obtain⟨y2,q2⟩:∃y,wr.cell? ⟨g20,4 * k + 2,none⟩=some y:=⟨_,b20.out.a8v (4 * k + 2) (by omega)⟩;obtain⟨y3,q3⟩:∃y,wr.cell? ⟨g20,4 * k + 3,none⟩=some y:=⟨_,b20.out.a8v (4 * k + 3) (by omega)⟩;have s3:=hjd b20.out.b2o.b2o.b2o.b2o;have kk:=hjd (((((Kept.refl [g20] wr).setCell (p:=⟨g20,4 * k,none⟩) (.inl (by simp)) (a1z (b2v H (4 * k)))).setCell (p:=⟨g20,4 * k + 1,none⟩) (.inl (by simp)) (a1z (b2v H (4 * k + 1)))).setCell (p:=⟨g20,4 * k + 2,none⟩) (.inl (by simp)) (a1z (b2v H (4 * k + 2)))).setCell (p:=⟨g20,4 * k + 3,none⟩) (.inl (by simp)) (a1z (b2v H (4 * k + 3))));have hxk:=hjd hlt7;generalize b2v H (4 * k)=z0 at *;generalize b2v H (4 * k + 1)=z1 at *;generalize b2v H (4 * k + 2)=z2 at *;generalize b2v H (4 * k + 3)=z3 at *;go_wp2_with fail;go_roundg (8 - (k + 1));case measure=>omega
       case rel=>
        refine⟨k + 1,by omega,by omega,by go_num,?_,?_,?_⟩
        ·exact s3
        ·exact hjd (K.out.a0r kk.out l20.out)
        ·exact hjd (B2.out.kept kk.out (by simpa using n20.out))
      ·obtain rfl:k=8:=by omega
       have b:=b20.out;rw [show 4 * 8=32 from rfl,a4s,←c3u]at b;replace b:=hjd b;go_wp2_with (first
        | (with_reducible refine a0f 251 ?_;refine a0d (o:=⟨some 251,_,_,_,_,_⟩) e6c rfl (.tmp 20) rfl rfl b.out (by simp [a8j]) ?_)
        | ((with_reducible refine a6c (.tmp 2) (.tmp 251) ?_);refine a0a (cs:=(bv (c3k H)).toArray) (o:=⟨none,Op.store 22 (.tmp 2) (.tmp 251),_,_,_,_⟩) e6c rfl (.tmp 2) (.tmp 251) rfl rfl rfl B2.out (by simp) (by simp [a8j]) (a3o _) ?_;intro wb bb kb;have BB:=hjd bb;have KK:=hjd (K.out.a0r kb l2.out);clear bb kb))
       exact a1m e6c rfl rfl BB.out (by simp [a8j]) rfl ⟨by rw [hH.out],KK.out⟩
end Go.Proofs.YtdbngnlpafcogaaGreat
