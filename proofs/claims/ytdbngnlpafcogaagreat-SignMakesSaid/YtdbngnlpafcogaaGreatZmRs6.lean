/-
  The document's sign: Right says what Verify says.
-/
import Derived.Test.YtdbngnlpafcogaaGreatZmRs5
set_option maxRecDepth 100000
namespace Go.Proofs.YtdbngnlpafcogaaGreat
open Go.RowKit Go.Mem Go.Txt
end Go.Proofs.YtdbngnlpafcogaaGreat
