/-
  The ring: Open.
-/
import Derived.Test.YtdbngnlpafcogaaGreatZbJ03
set_option maxRecDepth 100000
namespace Go.Proofs.YtdbngnlpafcogaaGreat
open Go.RowKit Go.Mem Go.Txt
theorem c8f:SliceT Tryz.prog 106 22 32 32 (ab (a0e 32)):=⟨Tryz.underlying106,by kernel_rfl,rfl,by omega⟩
theorem e0o{w:World}{g:Nat}{t:TypeId}{v1 v2 v3:Value}{x1 x2 x3:List UInt8}(hb:Blk w g t #[v1,v2,v3])(h1:a2g x1 v1 w)(h2:a2g x2 v2 w)(h3:a2g x3 v3 w):Parts w (.slice (some ⟨g,0,none⟩) 3 3) [(v1,x1),(v2,x2),(v3,x3)]:=by
 refine⟨⟨_,_,rfl,rfl,Nat.le_refl _,fun _=>⟨g,0,rfl,fun j u hu=>by rw [hb.cell,Nat.zero_add];simpa using hu⟩⟩,fun p hp=>?_⟩
 simp only [List.mem_cons,List.not_mem_nil,or_false]at hp
 rcases hp with rfl | rfl | rfl
 ·exact h1
 ·exact h2
 ·exact h3
theorem d8b{keys:List (List UInt8)}{i:Nat}(h:i < keys.length)(hk:∀k∈keys,k.length=32):∃pre post,keys.flatMap bv=pre ++ (bv (keys.getD i []) ++ post)∧pre.length=i * 32:=by
 have e:keys=keys.take i ++ (keys[i] :: keys.drop (i + 1)):=by rw [List.getElem_cons_drop];exact(List.take_append_drop i keys).symm
 have hg:keys.getD i []=keys[i]:=by simp [List.getD_eq_getElem?_getD,h]
 refine⟨(keys.take i).flatMap bv,(keys.drop (i + 1)).flatMap bv,?_,?_⟩
 ·conv=>lhs;rw [e]
  rw [List.flatMap_append,List.flatMap_cons,hg]
 ·rw [d9h (fun k hm=>hk k (List.mem_of_mem_take hm)),List.length_take,Nat.min_eq_left (by omega)]
theorem oM.lt{w:World}{b n:Nat}{D:DU}(m:oM w b n D):b < w.heap.size:=World.ownsMap.lt m
end Go.Proofs.YtdbngnlpafcogaaGreat
