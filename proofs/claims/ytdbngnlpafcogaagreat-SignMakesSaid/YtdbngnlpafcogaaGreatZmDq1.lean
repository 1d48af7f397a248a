/-
  The document's digests: words turned (64 bits), its tables.
-/
import Derived.Test.YtdbngnlpafcogaaGreatZmSq5
import Derived.Test.YtdbngnlpafcogaaGreatZmLit
set_option maxRecDepth 100000
namespace Go.Mem
open Go.RowKit Go.Txt
section
variable {P:Program} {w:World} {a:Act} {ops:Array Oper} {rest:List Oper} {o:Oper} {Q:Exit→Act→World→Prop} {t e:TypeId} {bytes:Nat} {z:Value}
theorem a6y(hgd:Region.wanted o (yielded ops a.tmps)=true)(T:SliceT P t e 1 bytes z){n:Nat}{ps:Array (Nat × Operand)}(ho:o.op= .buildSlice t n ps){vs:List (Nat × Value)}(hv:(ps.map fun(p:Nat × Operand)=>(p.1,a.eval p.2)).toList=vs)
 (h0:0 < n) (hsmall:n≤2 ^ 24) {cells:Array Value} (hf:Instr.fill (fun i=>some (i * 1,1)) ((Array.range (n * 1)).map (z.cells[· % z.cells.size]!)) vs=some cells)
 (h:∀g w',Made w w' g e cells→wpList P ops Q rest (a.put o.dst (.slice (some ⟨g,0,none⟩) n n)) w'):wpList P ops Q (o :: rest) a w:=by
 obtain⟨i,hi,hz,hs,hb⟩:=info_parts T.2
 refine a1r hgd fun _ hK=>wp_buildSlice t e n _ ho cells i z T.1 hi hz (by rw [hs];omega) (by rw [hs];omega) (by rw [hs];exact(congrArg (Instr.fill _ _) hv).trans hf) (hK _ _ (h _ _ ⟨Blk.new _ _ _,(Kept.refl [] w).alloc _,Nat.le_refl _⟩))
theorem c2v(hgd:Region.wanted o (yielded ops a.tmps)=true)(T:SliceT P t e 1 bytes z){x0 x1 x2 x3 x4 x5 x6 x7:Operand}(ho:o.op= .buildSlice t 8 #[(0,x0),(1,x1),(2,x2),(3,x3),(4,x4),(5,x5),(6,x6),(7,x7)]){v0 v1 v2 v3 v4 v5 v6 v7:Value}(h0:a.eval x0=v0)(h1:a.eval x1=v1)(h2:a.eval x2=v2)(h3:a.eval x3=v3)(h4:a.eval x4=v4)(h5:a.eval x5=v5)(h6:a.eval x6=v6)(h7:a.eval x7=v7)
 (c0:v0.cells= #[v0]) (c1:v1.cells= #[v1]) (c2:v2.cells= #[v2]) (c3:v3.cells= #[v3]) (c4:v4.cells= #[v4]) (c5:v5.cells= #[v5]) (c6:v6.cells= #[v6]) (c7:v7.cells= #[v7])
 (h:∀g w',Made w w' g e #[v0,v1,v2,v3,v4,v5,v6,v7]→wpList P ops Q rest (a.put o.dst (.slice (some ⟨g,0,none⟩) 8 8)) w'):wpList P ops Q (o :: rest) a w:=by
 obtain⟨i,hi,hz,hs,hb⟩:=info_parts T.2
 have e2:(#[(0,x0),(1,x1),(2,x2),(3,x3),(4,x4),(5,x5),(6,x6),(7,x7)].map fun(p:Nat × Operand)=>(p.1,a.eval p.2)).toList= [(0,v0),(1,v1),(2,v2),(3,v3),(4,v4),(5,v5),(6,v6),(7,v7)]:=by simp [h0,h1,h2,h3,h4,h5,h6,h7]
 have hf:Instr.fill (fun i=>some (i * 1,1)) ((Array.range (8 * 1)).map (z.cells[· % z.cells.size]!)) [(0,v0),(1,v1),(2,v2),(3,v3),(4,v4),(5,v5),(6,v6),(7,v7)]=some #[v0,v1,v2,v3,v4,v5,v6,v7]:=by
  have hr:∀f:Nat→Value,(Array.range (8 * 1)).map f= #[f 0,f 1,f 2,f 3,f 4,f 5,f 6,f 7]:=fun f=>Array.toList_inj.1 (by rw [Array.toList_map,Array.toList_range];rfl)
  rw [hr]
  simp [Instr.fill,c0,c1,c2,c3,c4,c5,c6,c7]
 refine a1r hgd fun _ hK=>wp_buildSlice t e 8 _ ho #[v0,v1,v2,v3,v4,v5,v6,v7] i z T.1 hi hz (by rw [hs];omega) (by rw [hs];omega) (by rw [hs];exact(congrArg (Instr.fill _ _) e2).trans hf) (hK _ _ (h _ _ ⟨Blk.new _ _ _,(Kept.refl [] w).alloc _,Nat.le_refl _⟩))
end
end Go.Mem
namespace Go.Proofs.YtdbngnlpafcogaaGreat.Q
open Go.RowKit Go.Mem Go.Txt
theorem d7p(x:B64)(n:Nat)(h1:1≤n)(h2:n≤63):bits .or .u64 ((x.toNat:Int) / 2 ^ n) (IntKind.u64.wrap ((x.toNat:Int) * 2 ^ (64 - n)))=((rl x (64 - n)).toNat:Nat):=by
 rw [IntKind.wrap_u64,bshl,bshr,bor]
 unfold rl
 rw [BitVec.or_comm,show 64 - (64 - n)=n from by omega]
set_option maxHeartbeats 800000 in
theorem b0l(x:B64)(n:Nat)(h1:1≤n)(h2:n≤63)(w:World) :
 Calls Tryz.prog 167 #[W64 x,.int .u64 (n:Int),.int .u64 64] w fun e w'=>e= .returned (W64 (rl x (64 - n)))∧Kept [] w w':=by
 have K:=hjd (Kept.refl [] w)
 have e1:(64:Int) - n=((64 - n:Nat):Int):=by omega
 have e3:∀t:Nat,((t:Int)).toNat=t:=fun t=>rfl
 have hv:=d7p x n h1 h2
 go_enter Tryz.func167,Tryz.ntmps167
 go_wp2_with fail
 go_ret
 exact⟨rfl,K.out⟩
theorem b4m(x:B64)(w:World):Calls Tryz.prog 134 #[W64 x,.int .u64 64] w fun e w'=>e= .returned (W64 x)∧Kept [] w w':=by
 have K:=hjd (Kept.refl [] w)
 go_enter Tryz.func134,Tryz.ntmps134
 go_wp2_with fail
 go_ret
 exact⟨rfl,K.out⟩
set_option maxHeartbeats 800000 in
theorem b4w(x:B64)(a b c:Nat)(ha1:1≤a)(ha:a≤63)(hb1:1≤b)(hb:b≤63)(hc1:1≤c)(hc:c≤63)(w:World) :
 Calls Tryz.prog 135 #[W64 x,.int .u64 64,.int .u64 (a:Int),.int .u64 (b:Int),.int .u64 (c:Int),.bool true] w fun e w'=>e= .returned (W64 ((rl x (64 - a) ^^^ rl x (64 - b)) ^^^ x >>> c))∧Kept [] w w':=by
 have ca:=hjd (b0l x a ha1 ha)
 have cb:=hjd (b0l x b hb1 hb)
 have e3:∀t:Nat,((t:Int)).toNat=t:=fun t=>rfl
 go_enter Tryz.func135,Tryz.ntmps135
 go_wp2_with (first
  | (go_at_call 167;(with_reducible refine(ca.out _).mono ?_);rintro e w1 ⟨rfl,k1⟩;have K:=hjd k1;clear k1 ca)
  | (go_at_call 167;(with_reducible refine(cb.out _).mono ?_);rintro e w1 ⟨rfl,k1⟩;replace K:=hjd (K.out.a0i k1);clear k1 cb))
 go_ret
 refine⟨?_,K.out⟩
 show Ending.returned (.int .u64 (bits .xor .u64 (bits .xor .u64 ((rl x (64 - a)).toNat:Int) ((rl x (64 - b)).toNat:Int)) ((x.toNat:Int) / 2 ^ c)))=_
 rw [bshr,c1k,c1k]
set_option maxHeartbeats 800000 in
theorem b6j(x:B64)(a b c:Nat)(ha1:1≤a)(ha:a≤63)(hb1:1≤b)(hb:b≤63)(hc1:1≤c)(hc:c≤63)(w:World) :
 Calls Tryz.prog 135 #[W64 x,.int .u64 64,.int .u64 (a:Int),.int .u64 (b:Int),.int .u64 (c:Int),.bool false] w fun e w'=>e= .returned (W64 ((rl x (64 - a) ^^^ rl x (64 - b)) ^^^ rl x (64 - c)))∧Kept [] w w':=by
 have ca:=hjd (b0l x a ha1 ha)
 have cb:=hjd (b0l x b hb1 hb)
 have cc:=hjd (b0l x c hc1 hc)
 go_enter Tryz.func135,Tryz.ntmps135
 go_wp2_with (first
  | (go_at_call 167;(with_reducible refine(ca.out _).mono ?_);rintro e w1 ⟨rfl,k1⟩;have K:=hjd k1;clear k1 ca)
  | (go_at_call 167;(with_reducible refine(cb.out _).mono ?_);rintro e w1 ⟨rfl,k1⟩;replace K:=hjd (K.out.a0i k1);clear k1 cb)
  | (go_at_call 167;(with_reducible refine(cc.out _).mono ?_);rintro e w1 ⟨rfl,k1⟩;replace K:=hjd (K.out.a0i k1);clear k1 cc))
 go_ret
 refine⟨?_,K.out⟩
 show Ending.returned (.int .u64 (bits .xor .u64 (bits .xor .u64 ((rl x (64 - a)).toNat:Int) ((rl x (64 - b)).toNat:Int)) ((rl x (64 - c)).toNat:Int)))=_
 rw [c1k,c1k]
theorem b9v:SliceT Tryz.prog 158 67 1 8 (.int .u64 0):=⟨Tryz.underlying158,by kernel_rfl,rfl,by omega⟩
theorem e0p:SliceT Tryz.prog 183 25 1 8 (.int .u64 0):=⟨Tryz.underlying183,by kernel_rfl,rfl,by omega⟩
theorem c7q(t:Nat)(ht:t < 8)(w:World):Calls Tryz.prog 133 #[.int .i64 (t:Int)] w fun e w'=>e= .returned (.int .u64 ((a3v.getD t 0:Nat):Int))∧Kept [] w w':=by
 have hg:=hjd (show∀(u:World) (g:Nat),Blk u g 67 (uv a3v).toArray→u.cell? ⟨g,t,none⟩=some (.int .u64 ((a3v.getD t 0:Nat):Int))from fun u g hb=>by
  have hl:t < a3v.length:=ht
  rw [hb.uget t hl,List.getD_eq_getElem?_getD,List.getElem?_eq_getElem hl];rfl)
 generalize a3v.getD t 0=r at *
 go_enter Tryz.func133,Tryz.ntmps133
 go_wp2_with (first
  | ((with_reducible refine a0q 3 ?_);(refine a6y (o:=⟨some 3,_,_,_,_,_⟩) (cells:=(uv a3v).toArray) (vs:=(uv a3v).zipIdx.map fun p=>(p.2,p.1)) rfl b9v rfl (by kernel_rfl) (by decide) (by decide) (by kernel_rfl) ?_);intro g3 w3 m3
     have q:=hg.out w3 g3 m3.blk
     have K:=hjd m3.kept
     clear m3))
 go_ret
 exact⟨rfl,K.out⟩
set_option maxHeartbeats 800000 in
theorem d8p(t:Nat)(ht:t < 80)(w:World):Calls Tryz.prog 136 #[.int .i64 (t:Int)] w fun e w'=>e= .returned (.int .u64 ((a2o.getD t 0:Nat):Int))∧Kept [] w w':=by
 have hg:=hjd (show∀(u:World) (g:Nat),Blk u g 67 (uv a2o).toArray→u.cell? ⟨g,t,none⟩=some (.int .u64 ((a2o.getD t 0:Nat):Int))from fun u g hb=>by
  have hl:t < a2o.length:=ht
  rw [hb.uget t hl,List.getD_eq_getElem?_getD,List.getElem?_eq_getElem hl];rfl)
 generalize a2o.getD t 0=r at *
 go_enter Tryz.func136,Tryz.ntmps136
 go_wp2_with (first
  | ((with_reducible refine a0q 3 ?_);(refine a6y (o:=⟨some 3,_,_,_,_,_⟩) (cells:=(uv a2o).toArray) (vs:=(uv a2o).zipIdx.map fun p=>(p.2,p.1)) rfl b9v rfl (by kernel_rfl) (by decide) (by decide) (by kernel_rfl) ?_);intro g3 w3 m3
     have q:=hg.out w3 g3 m3.blk
     have K:=hjd m3.kept
     clear m3))
 go_ret
 exact⟨rfl,K.out⟩
end Go.Proofs.YtdbngnlpafcogaaGreat.Q
