/-
  The document's sign: Sign.
-/
import Derived.Test.YtdbngnlpafcogaaGreatZrRs3
import Derived.Test.YtdbngnlpafcogaaGreatZrLit
set_option maxRecDepth 100000
namespace Go.Proofs.YtdbngnlpafcogaaGreat
open Go.RowKit Go.Mem Go.Txt
section
variable {l:List Oper} {vs:List Rel} {a0:Act} {w0:World} {o:Oper}
theorem c7p{x y z i j k:Nat}{v1 v2 v3:Value}{x1 x2 x3:List UInt8}{oi oj ok:Oper}(ho:o.op= .buildSlice 45 3 #[(0,.tmp x),(1,.tmp y),(2,.tmp z)])(c0:v1.cells= #[v1])(c1:v2.cells= #[v2])(c2:v3.cells= #[v3])
 (hi:vs[i]?=some (isV v1)) (hl:l[i]?=some oi) (hd:oi.dst=some x) (hb:a2s o i) (hj:vs[j]?=some (isV v2)) (hl2:l[j]?=some oj) (hd2:oj.dst=some y) (hb2:a2s o j) (hk:vs[k]?=some (isV v3)) (hl3:l[k]?=some ok) (hd3:ok.dst=some z) (hb3:a2s o k)
 (r1:Rd w0 1 v1 x1.length (bv x1)) (r2:Rd w0 1 v2 x2.length (bv x2)) (r3:Rd w0 1 v3 x3.length (bv x3)):a5z Tryz.prog l vs (fun u=>Kept [] w0 u) a0 o (a7u [(v1,x1),(v2,x2),(v3,x3)]):=by
 refine⟨fun _ _ _ h hk=>Parts.a1w h hk,fun a w C R hS hr _ h=>?_⟩
 have e:a.tmps.getD x undef=v1:=hr i _ x oi hi hl hd hb
 have e2:a.tmps.getD y undef=v2:=hr j _ y oj hj hl2 hd2 hb2
 have e3:a.tmps.getD z undef=v3:=hr k _ z ok hk hl3 hd3 hb3
 obtain⟨q,hq,hz,hs,hb⟩:=info_parts a4o.2
 have hv:(#[(0,Operand.tmp x),(1,.tmp y),(2,.tmp z)].map fun(p:Nat × Operand)=>(p.1,a.eval p.2)).toList= [(0,v1),(1,v2),(2,v3)]:=by simp [Act.eval,←e,←e2,←e3]
 have hf:Instr.fill (fun i=>some (i * 1,1)) ((Array.range (3 * 1)).map ((Value.slice none 0 0).cells[· % (Value.slice none 0 0).cells.size]!)) [(0,v1),(1,v2),(2,v3)]=some #[v1,v2,v3]:=by
  have hr:∀f:Nat→Value,(Array.range (3 * 1)).map f= #[f 0,f 1,f 2]:=fun f=>Array.toList_inj.1 (by rw [Array.toList_map,Array.toList_range];rfl)
  rw [hr]
  simp [Instr.fill,c0,c1,c2]
 have kk:Kept [] w (w.alloc (.cells #[v1,v2,v3] 23)):=(Kept.refl [] w).alloc _
 refine wp_buildSlice _ _ 3 _ ho #[v1,v2,v3] q _ a4o.1 hq hz (by rw [hs];omega) (by rw [hs];omega) (by rw [hs];exact(congrArg (Instr.fill _ _) hv).trans hf) (h _ _ kk ⟨⟨_,_,rfl,rfl,Nat.le_refl _,fun _=>⟨_,0,rfl,fun t u hu=>by rw [(Blk.new w _ _).cell,Nat.zero_add];simpa using hu⟩⟩,fun p hp=>?_⟩)
 simp only [List.mem_cons,List.not_mem_nil,or_false]at hp
 rcases hp with rfl | rfl | rfl
 ·exact r1.a1w (hS.a0i kk)
 ·exact r2.a1w (hS.a0i kk)
 ·exact r3.a1w (hS.a0i kk)
end
end Go.Proofs.YtdbngnlpafcogaaGreat
