/-
  Digests: what a block does: words of 64 bits, plain.
-/
import Derived.Test.YtdbngnlpafcogaaGreatZmSq3
import Derived.Test.YtdbngnlpafcogaaGreatZmSq1
set_option maxRecDepth 100000
namespace Go.Proofs.YtdbngnlpafcogaaGreat.Q
open Go.RowKit Go.Mem Go.Txt
abbrev B64:=BitVec 64
def rl(x:B64)(s:Nat):B64:=x <<< s ||| x >>> (64 - s)
def ls0(x:B64):B64:=(rl x 63 ^^^ rl x 56) ^^^ x >>> 7
def ls1(y:B64):B64:=(rl y 45 ^^^ rl y 3) ^^^ y >>> 6
def us0(a:B64):B64:=(rl a 36 ^^^ rl a 30) ^^^ rl a 25
def us1(e:B64):B64:=(rl e 50 ^^^ rl e 46) ^^^ rl e 23
def chB(e f g:B64):B64:=(e &&& f) ^^^ (~~~e &&& g)
def mjB(a b c:B64):B64:=((a &&& b) ^^^ (a &&& c)) ^^^ (b &&& c)
def c7v(p:Nat→UInt8)(t:Nat):Nat→B64
 | 0=>0
 | j + 1=>c7v p t j <<< 8 ||| BitVec.ofNat 64 (p (8 * t + j)).toNat
def wrd(p:Nat→UInt8)(t:Nat):B64:=c7v p t 8
def sch(p:Nat→UInt8)(t:Nat):B64:=
 if _h:t < 16 then wrd p t else ls1 (sch p (t - 2)) + sch p (t - 7) + ls0 (sch p (t - 15)) + sch p (t - 16)
termination_by t
decreasing_by all_goals omega
theorem d0g(p:Nat→UInt8){t:Nat}(h:t < 16):sch p t=wrd p t:=by rw [sch,dif_pos h]
theorem d2o(p:Nat→UInt8){t:Nat}(h:¬t < 16):sch p t=ls1 (sch p (t - 2)) + sch p (t - 7) + ls0 (sch p (t - 15)) + sch p (t - 16):=by rw [sch,dif_neg h]
def n64(n:Nat):B64:=BitVec.ofNat 64 n
def rnd(k m:B64)(v:Nat→B64):Nat→B64
 | 0=>v 7 + us1 (v 4) + chB (v 4) (v 5) (v 6) + k + m + (us0 (v 0) + mjB (v 0) (v 1) (v 2))
 | 4=>v 3 + (v 7 + us1 (v 4) + chB (v 4) (v 5) (v 6) + k + m)
 | i + 1=>v i
def a5t(p:Nat→UInt8)(h:Nat→B64):Nat→Nat→B64
 | 0=>h
 | t + 1=>rnd (n64 (a2o.getD t 0)) (sch p t) (a5t p h t)
def blk(p:Nat→UInt8)(h:Nat→B64):Nat→B64:=fun i=>h i + a5t p h 80 i
def a7a(b:List UInt8):Nat→Nat→B64
 | 0=>fun i=>n64 (a3v.getD i 0)
 | n + 1=>blk (fun j=>b.getD (128 * n + j) 0) (a7a b n)
def d8h(h:Nat→B64):List UInt8:=(List.range 64).map fun j=>UInt8.ofNat ((h (j / 8)).toNat / 2 ^ (56 - 8 * (j % 8)))
def sha(m:List UInt8):List UInt8:=d8h (a7a (pad m) ((pad m).length / 128))
theorem a6g(m:List UInt8):(sha m).length=64:=by simp [sha,d8h]
theorem ch_or(e f g:B64):(e &&& f) ||| (~~~e &&& g)=chB e f g:=by
 unfold chB
 apply BitVec.eq_of_getLsbD_eq
 intro i hi
 simp only [BitVec.getLsbD_or,BitVec.getLsbD_and,BitVec.getLsbD_xor,BitVec.getLsbD_not,hi,decide_true,Bool.true_and]
 cases e.getLsbD i <;> cases f.getLsbD i <;> cases g.getLsbD i <;> rfl
theorem mj_or(a b c:B64):((a &&& b) ||| (a &&& c)) ||| (b &&& c)=mjB a b c:=by
 unfold mjB
 apply BitVec.eq_of_getLsbD_eq
 intro i _
 simp only [BitVec.getLsbD_or,BitVec.getLsbD_and,BitVec.getLsbD_xor]
 cases a.getLsbD i <;> cases b.getLsbD i <;> cases c.getLsbD i <;> rfl
end Go.Proofs.YtdbngnlpafcogaaGreat.Q
