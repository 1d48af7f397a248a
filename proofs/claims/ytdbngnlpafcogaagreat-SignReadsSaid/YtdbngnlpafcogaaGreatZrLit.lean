/-
  Slice literals of one-cell elements.
-/
import Derived.Test.YtdbngnlpafcogaaGreatZrFam
set_option maxRecDepth 100000
namespace Go.Mem
open Go.RowKit Go.Txt
end Go.Mem
