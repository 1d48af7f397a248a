/-
  The document's sign: a seed's key.
-/
import Derived.Test.YtdbngnlpafcogaaGreatZrRs2
import Derived.Test.YtdbngnlpafcogaaGreatZrSzg
import Derived.Test.YtdbngnlpafcogaaGreatZrRr7
set_option maxRecDepth 100000
namespace Go.Proofs.YtdbngnlpafcogaaGreat
open Go.RowKit Go.Mem Go.Txt
theorem b6y(xs:Array Value)(w:World):(callFunc 40 xs).run Tryz.prog w= .ok (.enter 40 xs) w:=enters_of (c:=_) Tryz.func40 (by kernel_rfl) rfl xs w
theorem c1n(xs:Array Value)(w:World):(callFunc 58 xs).run Tryz.prog w= .ok (.enter 58 xs) w:=enters_of (c:=_) Tryz.func58 (by kernel_rfl) rfl xs w
theorem c1i(xs:Array Value)(w:World):(callFunc 57 xs).run Tryz.prog w= .ok (.enter 57 xs) w:=enters_of (c:=_) Tryz.func57 (by kernel_rfl) rfl xs w
theorem c2p(xs:Array Value)(w:World):(callFunc 55 xs).run Tryz.prog w= .ok (.enter 55 xs) w:=enters_of (c:=_) Tryz.func55 (by kernel_rfl) rfl xs w
theorem c2y(xs:Array Value)(w:World):(callFunc 45 xs).run Tryz.prog w= .ok (.enter 45 xs) w:=enters_of (c:=_) Tryz.func45 (by kernel_rfl) rfl xs w
theorem c2z(xs:Array Value)(w:World):(callFunc 44 xs).run Tryz.prog w= .ok (.enter 44 xs) w:=enters_of (c:=_) Tryz.func44 (by kernel_rfl) rfl xs w
def c1f(bs:List UInt8):Rel:=fun v w=>Rd w 1 v bs.length (bv bs)
theorem c1f.a1w{bs:List UInt8}{v:Value}{w w':World}(h:c1f bs v w)(k:Kept [] w w'):c1f bs v w':=Rd.a1w h k
theorem long_c(pv:Value)(ps:List (Value × List UInt8))(m:List UInt8)(u:World)(hp:Parts u pv ps)(hj:a1o ps=m)(hn:ps.length≤1000000000)(hl:m.length≤100000000000) :
 Calls Tryz.prog 45 #[pv] u fun e w'=>∃v',e= .returned v'∧c1f (Q.sha m) v' w'∧Kept [] u w':=by
 subst hj
 refine(Q.d2o pv ps u hp (by omega) (by omega)).mono ?_
 rintro e w' ⟨v',rfl,hn⟩
 exact⟨v',rfl,New.rd hn,hn.kept⟩
theorem mod_c(v:Value)(s:List UInt8)(u:World)(h:c1f s v u)(hl:s.length≤1000):Calls Tryz.prog 44 #[v] u fun e w'=>e= .returned (ab (le (leV s % LL) 32))∧Kept [] u w':=by
 have:=Z.c3y v s u h hl
 rw [d9w]at this
 exact this
end Go.Proofs.YtdbngnlpafcogaaGreat
