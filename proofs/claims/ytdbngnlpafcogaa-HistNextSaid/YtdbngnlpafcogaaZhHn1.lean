/-
  The keys' laws: which update is a history's next one (HistNext): the walk, as far as the update.
-/
import Derived.Test.YtdbngnlpafcogaaZhJ05
set_option maxRecDepth 100000
namespace Go.Proofs.Ytdbngnlpafcogaa
open Go.RowKit Go.Mem Go.Txt
theorem d3c{keys:List (List UInt8)}{v:Value}{w:World}(hr:Rd w 32 v keys.length (keys.flatMap bv))(hl:∀k∈keys,k.length=32){j:Nat}(hj:j≤keys.length) :
 ∃B d,(∀W,(Instr.sliceAt 38 v none (some (.int .i64 (j:Int))) none).run Try.prog W= .ok (.slice B j d) W)∧∀u,Kept [] w u→Rd u 32 (.slice B j d) (keys.take j).length ((keys.take j).flatMap bv):=by
 obtain⟨B,d,h1,h2,_,_⟩:=cut_to a7l hr .i64 j hj
 refine⟨B,d,h1,fun u hk=>?_⟩
 have hlj:(keys.take j).length=j:=by rw [List.length_take];omega
 rw [hlj,←d2y hl j hj]
 exact h2.a0q hk
theorem hlit9:Value.agg ((bv (a0j 32)).set 0 (.int .u8 9)).toArray=ab (le 9 32):=by kernel_rfl
theorem d7h:Value.agg (((bv (a0j 32)).set 0 (.int .u8 4)).set 1 (.int .u8 4)).toArray=ab (4 :: 4 :: a0j 30):=by kernel_rfl
end Go.Proofs.Ytdbngnlpafcogaa
