/-
  The curve: the base point's order is a prime; so many of the base point are nothing just for its multiples.
-/
import Derived.Test.YtdbngnlpafcogaaGreatZmRf8
set_option maxRecDepth 100000
namespace Go.Proofs.YtdbngnlpafcogaaGreat
open Go.RowKit Go.Mem Go.Txt Go.Nt
theorem pr_l1:Pr 1224481:=a7f 1107 (by decide) (by decide) (by decide +kernel)
theorem pr_l2:Pr 531581:=a7f 730 (by decide) (by decide) (by decide +kernel)
theorem pr_l3:Pr 1257559732178653:=b9s 51 2 2 pr_l1 pr_l2 (by decide) (by decide +kernel) (by decide +kernel) (by decide +kernel) (by decide) (by decide)
theorem pr_l4:Pr 4434155615661930479:=b6a 62 2 pr_l3 (by decide +kernel) (by decide +kernel) (by decide) (by decide)
theorem pr_l5:Pr 172054593956031949258510691:=b6a 88 2 pr_l4 (by decide +kernel) (by decide +kernel) (by decide) (by decide)
theorem pr_l6:Pr 19757330305831588566944191468367130476339:=b6a 134 2 pr_l5 (by decide +kernel) (by decide +kernel) (by decide) (by decide)
theorem pr_l7:Pr 276602624281642239937218680557139826668747:=b6a 138 2 pr_l6 (by decide +kernel) (by decide +kernel) (by decide) (by decide)
theorem pr_LL:Pr 7237005577332262213973186563042994240857116359379907606001950938285454250989:=b6a 253 2 pr_l7 (by decide +kernel) (by decide +kernel) (by decide) (by decide)
theorem BB_ne:Ed.Pt.mul 1 BB≠Ed.Pt.zero:=by
 rw [Ed.Pt.c7x]
 intro e
 have h:BB.y.v=Ed.Pt.zero.y.v:=by rw [e]
 exact absurd h (by decide +kernel)
end Go.Proofs.YtdbngnlpafcogaaGreat
