/-
  The sign: what was signed is not right for another message, reckoned by the kernel.
-/
import Derived.Test.YtdbngnlpafcogaaGreatZmSg7
import Derived.Test.YtdbngnlpafcogaaGreatZmShk
set_option maxRecDepth 100000
namespace Go.Proofs.YtdbngnlpafcogaaGreat
open Go.RowKit Go.Mem Go.Txt
def ptK(k x y:Nat):Bool:=decide (k < 2 ^ 255) && decide (x < PP) && decide (y < PP) && decide (x * (mN bxN byN 255 k).z % PP=(mN bxN byN 255 k).x % PP) && decide (y * (mN bxN byN 255 k).z % PP=(mN bxN byN 255 k).y % PP)
def eK(x y:Nat):Nat:=y + if x % 2=1 then a3r else 0
theorem c8c{k x y:Nat}(h:ptK k x y=true):enc (Ed.Pt.mul k BB)=eK x y:=by
 unfold ptK at h
 simp only [Bool.and_eq_true,decide_eq_true_eq]at h
 obtain⟨⟨⟨⟨h1,h2⟩,h3⟩,h4⟩,h5⟩:=h
 obtain⟨e1,e2⟩:=(e3o (Q:=BB) rfl rfl 255 k h1).plain h4 h5
 unfold enc eK
 rw [e1,e2]
 show y % PP + (if x % PP % 2=1 then a3r else 0)=_
 rw [Nat.mod_eq_of_lt h2,Nat.mod_eq_of_lt h3]
def numK(m:List UInt8):Nat:=leV (Q.shaB m) % LL
theorem c2d(m:List UInt8):b5e m=numK m:=by unfold b5e numK;rw [Q.b6u,c7w,zLL]
def krOK(bs m m2 D AB RB:List UInt8)(a x y r x2 y2:Nat):Bool:=
 decide (Q.shaB bs=D) && decide (leV (a2u D)=a) && ptK a x y && decide (le (eK x y) 32=AB) && decide (numK (D.drop 32 ++ m)=r) && ptK r x2 y2 && decide (le (eK x2 y2) 32=RB) && decide (numK (RB ++ (AB ++ m2)) * (a % LL) % LL≠numK (RB ++ (AB ++ m)) * (a % LL) % LL)
theorem kr_key{bs m m2 D AB RB:List UInt8}{a x y r x2 y2:Nat}(h:krOK bs m m2 D AB RB a x y r x2 y2=true):b3b (a7q bs)=AB∧RS bs m=RB:=by
 unfold krOK at h
 simp only [Bool.and_eq_true,decide_eq_true_eq]at h
 obtain⟨⟨⟨⟨⟨⟨⟨h1,h2⟩,h3⟩,h4⟩,h5⟩,h6⟩,h7⟩,h8⟩:=h
 have eD:Q.sha bs=D:=(Q.b6u bs).trans h1
 have ea:b3d bs=a:=by unfold b3d a7q;rw [eD,h2]
 have er:rS bs m=r:=by unfold rS;rw [eD,c2d,h5]
 refine⟨?_,?_⟩
 ·show le (enc (Ed.Pt.mul (b3d bs) BB)) 32=AB
  rw [ea,c8c h3,h4]
 ·rw [c1e,er,c8c h6,h7]
theorem kr_no{bs m m2 D AB RB:List UInt8}{a x y r x2 y2:Nat}(h:krOK bs m m2 D AB RB a x y r x2 y2=true):okV (b3b (a7q bs)) (a9r bs m) m2=false:=by
 obtain⟨eA,eR⟩:=kr_key h
 unfold krOK at h
 simp only [Bool.and_eq_true,decide_eq_true_eq]at h
 obtain⟨⟨⟨⟨⟨⟨⟨h1,h2⟩,h3⟩,h4⟩,h5⟩,h6⟩,h7⟩,h8⟩:=h
 have eD:Q.sha bs=D:=(Q.b6u bs).trans h1
 have ea:b3d bs=a:=by unfold b3d a7q;rw [eD,h2]
 refine e6u ?_
 unfold hS
 rw [eR,eA,ea,c2d,c2d]
 exact h8
end Go.Proofs.YtdbngnlpafcogaaGreat
