/-
  The document's sign: a seed's number.
-/
import Derived.Test.YtdbngnlpafcogaaGreatZrRs1
import Derived.Test.YtdbngnlpafcogaaGreatZrSg8
set_option maxRecDepth 100000
namespace Go.Proofs.YtdbngnlpafcogaaGreat
open Go.RowKit Go.Mem Go.Txt
theorem New.rd{w w':World}{v:Value}{l:List UInt8}(h:New w w' v l):Rd w' 1 v l.length (bv l):=Rd.b1p h.ow
end Go.Proofs.YtdbngnlpafcogaaGreat
