/-
  The sign's laws: which signatures are right (SignReads): the walk.
-/
import Derived.Test.YtdbngnlpafcogaaGreatZmRs6
set_option maxRecDepth 100000
namespace Go.Proofs.YtdbngnlpafcogaaGreat
open Go.RowKit Go.Mem Go.Txt
theorem cut_b{w:World}{v:Value}{bs:List UInt8}(h:a8e bs v w)(m:Nat)(hm:m≤bs.length):∃B d,(∀W,(Instr.sliceAt 23 v none (some (.int .i64 (m:Int))) none).run Tryz.prog W= .ok (.slice B m d) W)∧a8e (bs.take m) (.slice B m d) w:=by
 obtain⟨B,d,h1,h2,_,_⟩:=cut_to a2x h .i64 m hm
 refine⟨B,d,h1,?_⟩
 unfold a8e
 rw [List.length_take,Nat.min_eq_left hm]
 rw [Nat.mul_one]at h2
 rwa [bv,List.map_take]
theorem cut_e{w:World}{v:Value}{bs:List UInt8}(h:a8e bs v w)(m:Nat)(hm:m≤bs.length):∃B d,(∀W,(Instr.sliceAt 23 v (some (.int .i64 (m:Int))) none none).run Tryz.prog W= .ok (.slice B (bs.length - m) d) W)∧a8e (bs.drop m) (.slice B (bs.length - m) d) w:=by
 obtain⟨B,d,h1,h2,_,_⟩:=c5l a2x h .i64 m hm
 refine⟨B,d,h1,?_⟩
 unfold a8e
 rw [List.length_drop]
 rw [Nat.mul_one]at h2
 rwa [bv,List.map_drop]
theorem e5o(n c:Nat)(z:Int)(hz:(c:Int)=z):∃m:Nat,m≤c∧m≤n∧(m:Int)=if z < (n:Int)then z else(n:Int):=by
 subst hz
 exact⟨min c n,by omega,by omega,by split <;> omega⟩
end Go.Proofs.YtdbngnlpafcogaaGreat
