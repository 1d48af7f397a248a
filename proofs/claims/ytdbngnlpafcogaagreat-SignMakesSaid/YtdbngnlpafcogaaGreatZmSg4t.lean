/-
  The sign: what floats in a statement with a literal of parts.
-/
import Derived.Test.YtdbngnlpafcogaaGreatZmSg3
import Derived.Test.YtdbngnlpafcogaaGreatZmMrel
import Derived.Test.YtdbngnlpafcogaaGreatZmAppf
set_option maxRecDepth 100000
namespace Go.Proofs.YtdbngnlpafcogaaGreat
open Go.RowKit Go.Mem Go.Txt
theorem a5k{a:Act}{o:Oper}{x g:Nat}(ho:o.op= .slice 22 (.tmp x) none none none)(W:World)(hx:a.tmps.getD x undef= .pointer (some ⟨g,0,none⟩)):(execOp a.eval o).run Tryz.prog W= .ok (.value (.slice (some ⟨g,0,none⟩) 32 32)) W:=by
 unfold execOp
 simp only [ho,Sem.run_bind,Act.eval,hx]
 kernel_rfl
theorem a9s{a:Act}{o:Oper}{x:Nat}{v:Value}(ho:o.op= .move (.tmp x))(W:World)(hx:a.tmps.getD x undef=v):(execOp a.eval o).run Tryz.prog W= .ok (.value v) W:=by
 unfold execOp
 simp only [ho,Act.eval,hx]
 rfl
section
variable {l:List Oper} {vs:List Rel} {a0:Act} {w0:World} {o:Oper}
theorem a2s{x:Tmp}{p v:Value}(hx:a0.tmps.getD x undef=p)(hf:∀y∈l,y.dst≠some x)(he:∀(a:Act) W,a.tmps.getD x undef=p→(execOp a.eval o).run Tryz.prog W= .ok (.value v) W):a5y Tryz.prog l vs (fun u=>Kept [] w0 u) a0 o (isV v):=
 ⟨fun _ _ _ h _=>h,fun a w _ _ _ _ hoth h=>c1z (he a w ((hoth x hf).trans hx)) (h _ _ (Kept.refl _ _) rfl)⟩
def c9p(k0:Nat)(v1 v2:Value):Rel:=fun v w=>∃g,v= .slice (some ⟨g,0,none⟩) 2 2∧Blk w g 23 #[v1,v2]∧k0≤g
def a7z(ps:List (Value × List UInt8)):Rel:=fun v w=>Parts w v ps
theorem c5c{x y j k:Nat}{v1 v2:Value}{oj ok:Oper}(ho:o.op= .buildSlice 45 2 #[(0,.tmp x),(1,.tmp y)])(c0:v1.cells= #[v1])(c1:v2.cells= #[v2])
 (hj:vs[j]?=some (isV v1)) (hl:l[j]?=some oj) (hd:oj.dst=some x) (hb:a2f o j) (hj2:vs[k]?=some (isV v2)) (hl2:l[k]?=some ok) (hd2:ok.dst=some y) (hb2:a2f o k):a5y Tryz.prog l vs (fun u=>Kept [] w0 u) a0 o (c9p w0.heap.size v1 v2):=by
 refine⟨fun _ _ _ ⟨g,h1,h2,h3⟩ hk=>⟨g,h1,h2.kept hk (by simp),h3⟩,fun a w C R hS hr _ h=>?_⟩
 have e:a.tmps.getD x undef=v1:=hr j _ x oj hj hl hd hb
 have e2:a.tmps.getD y undef=v2:=hr k _ y ok hj2 hl2 hd2 hb2
 obtain⟨i,hi,hz,hs,hb⟩:=info_parts a3n.2
 have hv:(#[(0,Operand.tmp x),(1,.tmp y)].map fun(p:Nat × Operand)=>(p.1,a.eval p.2)).toList= [(0,v1),(1,v2)]:=by simp [Act.eval,←e,←e2]
 have hf:Instr.fill (fun i=>some (i * 1,1)) ((Array.range (2 * 1)).map ((Value.slice none 0 0).cells[· % (Value.slice none 0 0).cells.size]!)) [(0,v1),(1,v2)]=some #[v1,v2]:=by
  have hr:∀f:Nat→Value,(Array.range (2 * 1)).map f= #[f 0,f 1]:=fun f=>Array.toList_inj.1 (by rw [Array.toList_map,Array.toList_range];rfl)
  rw [hr]
  simp [Instr.fill,c0,c1]
 exact wp_buildSlice _ _ 2 _ ho #[v1,v2] i _ a3n.1 hi hz (by rw [hs];omega) (by rw [hs];omega) (by rw [hs];exact(congrArg (Instr.fill _ _) hv).trans hf) (h _ _ ((Kept.refl [] w).alloc _) ⟨_,rfl,Blk.new _ _ _,hS.size⟩)
end
theorem d0b(pv:Value)(g n:Nat)(ps qs:List (Value × List UInt8))(w:World)(hp:Parts w pv ps)(hq:n=qs.length)(ha:Ow w 23 1 (.slice (some ⟨g,0,none⟩) n n) n (qs.map (·.1)))(hi:∀x∈qs,Rd w 1 x.1 x.2.length (bv x.2))(hn:ps.length≤1000000000)(hm:n≤1000) :
 Calls Tryz.prog 35 #[pv,.slice (some ⟨g,0,none⟩) n n] w fun e w'=>∃v,e= .returned v∧Parts w' v (qs ++ ps)∧Kept [] w w':=by
 have A:=hjd ha
 have P:=hjd hp
 have hq:=hjd hq
 obtain⟨pA,pc,rfl,_,_,_⟩:=hp.outer
 clear hp ha
 go_enter Tryz.func35,Tryz.ntmps35
 go_wp2_with (first
  | (at_builtin
     refine d9a (n:=n) (m:=ps.length) a3n rfl (.tmp 5) (.tmp 6) rfl rfl A.out (fun _ _ h=>by cases h;rfl) rfl P.out.outer (one_sl ps w P.out.inner) (by omega) (by omega) ?_
     intro v' w1 o1 k1 f1
     have O1:=hjd o1
     have K1:=hjd k1
     clear o1 k1 f1))
 go_ret
 refine⟨_,rfl,⟨by rw [List.length_append,List.map_append,←hq.out];exact Rd.b1o O1.out,fun x hx=>?_⟩,K1.out⟩
 rcases List.mem_append.1 hx with hx | hx
 ·exact(hi x hx).a1o K1.out
 ·exact(P.out.inner x hx).a1o K1.out
end Go.Proofs.YtdbngnlpafcogaaGreat
