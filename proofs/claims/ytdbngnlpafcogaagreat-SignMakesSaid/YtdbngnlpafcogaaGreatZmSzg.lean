/-
  Scalars: which bytes the document says are numbers.
-/
import Derived.Test.YtdbngnlpafcogaaGreatZmSzr2
set_option maxRecDepth 100000
namespace Go.Proofs.YtdbngnlpafcogaaGreat.Z
open Go.RowKit Go.Mem
end Go.Proofs.YtdbngnlpafcogaaGreat.Z
