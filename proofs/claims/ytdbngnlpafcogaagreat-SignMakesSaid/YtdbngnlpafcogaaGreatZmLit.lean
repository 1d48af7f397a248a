/-
  Slice literals of one-cell elements.
-/
import Derived.Test.YtdbngnlpafcogaaGreatZmFam
set_option maxRecDepth 100000
namespace Go.Mem
open Go.RowKit Go.Txt
section
variable {P:Program} {w:World} {a:Act} {ops:Array Oper} {rest:List Oper} {o:Oper} {Q:Exit→Act→World→Prop} {t e:TypeId} {bytes:Nat} {z:Value}
theorem c2u(hgd:Region.wanted o (yielded ops a.tmps)=true)(T:SliceT P t e 1 bytes z){x0 x1 x2:Operand}(ho:o.op= .buildSlice t 3 #[(0,x0),(1,x1),(2,x2)]){v0 v1 v2:Value}(h0:a.eval x0=v0)(h1:a.eval x1=v1)(h2:a.eval x2=v2)
 (c0:v0.cells= #[v0]) (c1:v1.cells= #[v1]) (c2:v2.cells= #[v2])
 (h:∀g w',Made w w' g e #[v0,v1,v2]→wpList P ops Q rest (a.put o.dst (.slice (some ⟨g,0,none⟩) 3 3)) w'):wpList P ops Q (o :: rest) a w:=by
 obtain⟨i,hi,hz,hs,hb⟩:=info_parts T.2
 have e2:(#[(0,x0),(1,x1),(2,x2)].map fun(p:Nat × Operand)=>(p.1,a.eval p.2)).toList= [(0,v0),(1,v1),(2,v2)]:=by simp [h0,h1,h2]
 have hf:Instr.fill (fun i=>some (i * 1,1)) ((Array.range (3 * 1)).map (z.cells[· % z.cells.size]!)) [(0,v0),(1,v1),(2,v2)]=some #[v0,v1,v2]:=by
  have hr:∀f:Nat→Value,(Array.range (3 * 1)).map f= #[f 0,f 1,f 2]:=fun f=>Array.toList_inj.1 (by rw [Array.toList_map,Array.toList_range];rfl)
  rw [hr]
  simp [Instr.fill,c0,c1,c2]
 refine a1r hgd fun _ hK=>wp_buildSlice t e 3 _ ho #[v0,v1,v2] i z T.1 hi hz (by rw [hs];omega) (by rw [hs];omega) (by rw [hs];exact(congrArg (Instr.fill _ _) e2).trans hf) (hK _ _ (h _ _ ⟨Blk.new _ _ _,(Kept.refl [] w).alloc _,Nat.le_refl _⟩))
theorem c0o(hgd:Region.wanted o (yielded ops a.tmps)=true)(T:SliceT P t e 1 bytes z){x0 x1:Operand}(ho:o.op= .buildSlice t 2 #[(0,x0),(1,x1)]){v0 v1:Value}(h0:a.eval x0=v0)(h1:a.eval x1=v1)
 (c0:v0.cells= #[v0]) (c1:v1.cells= #[v1])
 (h:∀g w',Made w w' g e #[v0,v1]→wpList P ops Q rest (a.put o.dst (.slice (some ⟨g,0,none⟩) 2 2)) w'):wpList P ops Q (o :: rest) a w:=by
 obtain⟨i,hi,hz,hs,hb⟩:=info_parts T.2
 have e2:(#[(0,x0),(1,x1)].map fun(p:Nat × Operand)=>(p.1,a.eval p.2)).toList= [(0,v0),(1,v1)]:=by simp [h0,h1]
 have hf:Instr.fill (fun i=>some (i * 1,1)) ((Array.range (2 * 1)).map (z.cells[· % z.cells.size]!)) [(0,v0),(1,v1)]=some #[v0,v1]:=by
  have hr:∀f:Nat→Value,(Array.range (2 * 1)).map f= #[f 0,f 1]:=fun f=>Array.toList_inj.1 (by rw [Array.toList_map,Array.toList_range];rfl)
  rw [hr]
  simp [Instr.fill,c0,c1]
 refine a1r hgd fun _ hK=>wp_buildSlice t e 2 _ ho #[v0,v1] i z T.1 hi hz (by rw [hs];omega) (by rw [hs];omega) (by rw [hs];exact(congrArg (Instr.fill _ _) e2).trans hf) (hK _ _ (h _ _ ⟨Blk.new _ _ _,(Kept.refl [] w).alloc _,Nat.le_refl _⟩))
end
end Go.Mem
