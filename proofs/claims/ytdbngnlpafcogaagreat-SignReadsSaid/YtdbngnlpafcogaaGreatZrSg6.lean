/-
  The sign: which signatures Verify says are right; that Sign's are.
-/
import Derived.Test.YtdbngnlpafcogaaGreatZrSg5
import Derived.Test.YtdbngnlpafcogaaGreatZrPrl
set_option maxRecDepth 100000
namespace Go.Proofs.YtdbngnlpafcogaaGreat
open Go.RowKit Go.Mem Go.Txt
theorem d9w:∀l:List UInt8,Z.leV l=leV l
 | []=>rfl
 | a :: l=>by rw [Z.leV,leV,d9w l]
theorem zle(x n:Nat):Z.le x n=le x n:=rfl
theorem zLL:Z.LL=LL:=rfl
theorem ord_B{n:Nat}(h:Ed.Pt.mul n BB=Ed.Pt.zero):LL ∣ n:=by
 refine Classical.byContradiction fun hn=>?_
 have hm:n % LL≠0:=fun e=>hn (Nat.dvd_of_mod_eq_zero e)
 have hf:=Nt.Pr.b2b (p:=LL) pr_LL hm
 have h1:Ed.Pt.mul (n * n ^ (LL - 1 - 1)) BB=Ed.Pt.zero:=by rw [Ed.Pt.a5u,h,Ed.Pt.mul_zero]
 have h2:2 < LL:=by decide +kernel
 have e2:n * n ^ (LL - 1 - 1)=n ^ (LL - 1):=by
  rw [Nat.mul_comm,←Nat.pow_succ]
  exact congrArg (n ^ ·) (by omega)
 rw [e2,Ed.Pt.mul_mod BB b4t,hf]at h1
 exact BB_ne h1
theorem d3e{m n:Nat}(h:Ed.Pt.mul m BB=Ed.Pt.mul n BB):m % LL=n % LL:=by
 have hp:0 < LL:=by decide +kernel
 have hm:=Nat.mod_lt m hp
 have hn:=Nat.mod_lt n hp
 rw [Ed.Pt.mul_mod BB b4t m,Ed.Pt.mul_mod BB b4t n]at h
 generalize m % LL=a at *
 generalize n % LL=b at *
 have h2:Ed.Pt.mul (a + (LL - b)) BB=Ed.Pt.zero:=by rw [Ed.Pt.mul_add,h,←Ed.Pt.mul_add,show b + (LL - b)=LL from by omega,b4t]
 obtain⟨k,hk⟩:=ord_B h2
 have h3:k=1:=by
  rcases Nat.lt_trichotomy k 1 with e | e | e
  ·obtain rfl:k=0:=by omega
   rw [Nat.mul_zero]at hk
   omega
  ·exact e
  ·have:=Nat.mul_le_mul_left LL (show 2≤k from e)
   omega
 rw [h3,Nat.mul_one]at hk
 omega
theorem e3n{x:List UInt8}(nx:x.length=32)(h:∀P,enc P≠leV x):DsC x pz 50:=by
 have hk:b1o (leV x)=false:=by
  cases hc:b1o (leV x)with
  | false=>rfl
  | true=>
    obtain⟨P,_,e⟩:=c0k (c7d nx) hc
    exact absurd e (h P)
 have:=dec_n hk
 unfold DeC at this
 rwa [b5j nx]at this
theorem a6k{P Q:Ed.Pt}(h:le (enc P) 32=le (enc Q) 32):P=Q:=by
 have:=congrArg leV h
 rw [a5d,a5d,Nat.mod_eq_of_lt (b3u (b4b _)),Nat.mod_eq_of_lt (b3u (b4b _))]at this
 exact c1y this
structure OkS (key SG m:List UInt8) (P:Ed.Pt):Prop where
 kb:le (enc P) 32=key
 big:Ed.Pt.mul 8 P≠Ed.Pt.zero
 lt:leV (SG.drop 32) < LL
 eq:le (enc (Ed.Pt.mul (leV (SG.drop 32)) BB + Ed.Pt.mul (b3z (SG.take 32 ++ (key ++ m))) P.neg)) 32=SG.take 32
open Classical in
noncomputable def okV (key SG m:List UInt8):Bool:=decide (∃P,OkS key SG m P)
open Classical in
theorem c4i{key SG m:List UInt8}{P:Ed.Pt}(h:OkS key SG m P):okV key SG m=true:=decide_eq_true ⟨P,h⟩
open Classical in
theorem a6c{key SG m:List UInt8}(h:∀P,¬OkS key SG m P):okV key SG m=false:=decide_eq_false fun⟨P,hp⟩=>h P hp
open Classical in
theorem b8q{key SG m:List UInt8}{P:Ed.Pt}(hk:le (enc P) 32=key):okV key SG m=true↔OkS key SG m P:=by
 refine⟨fun h=>?_,c4i⟩
 obtain⟨Q,hq⟩:=of_decide_eq_true h
 rw [a6k (hk.trans hq.kb.symm)]
 exact hq
theorem d2u(m:List UInt8):leV (le (b3z m) 32)=b3z m:=by
 rw [a5d,Nat.mod_eq_of_lt (Nat.lt_trans (c2x m) (show Z.LL < 2 ^ (8 * 32) by decide +kernel))]
theorem c7f(key SG:List UInt8)(hk:key.length=32)(hg:SG.length=64)(pv:Value)(ps:List (Value × List UInt8))(m:List UInt8)(w:World)(hp:Parts w pv ps)(hj:a1o ps=m)(hn:ps.length≤1000000000)(hm:m.length≤100000000000) :
 Calls Tryz.prog 13 #[ab key,ab SG,pv] w fun e w'=>e= .returned (.bool (okV key SG m))∧Kept [] w w':=by
 have hR:(SG.take 32).length=32:=by simp [hg]
 have hT:(SG.drop 32).length=32:=by simp [hg]
 by_cases hex:∃P,le (enc P) 32=key
 ·obtain⟨P,hP⟩:=hex
  obtain⟨p,cd,hp2⟩:=dec_s hP.symm (P:=P) rfl
  have cs:=e3h hp2
  by_cases h8:Ed.Pt.mul 8 P=Ed.Pt.zero
  ·rw [decide_eq_true (b8h.2 h8)]at cs
   have e:okV key SG m=false:=a6c fun Q h=>h.big (by rw [a6k (h.kb.trans hP.symm)];exact h8)
   rw [e]
   exact d1q hk hg rfl pv w cd cs
  ·rw [decide_eq_false (fun e=>h8 (b8h.1 e))]at cs
   have cnw:=fun u=>Z.a5t (SG.drop 32) hT u
   have hz:Z.okB (Z.leV (SG.drop 32))=decide (leV (SG.drop 32) < LL):=by rw [d9w];rfl
   by_cases hs:leV (SG.drop 32) < LL
   ·rw [hz,decide_eq_true hs,show Z.nw (Z.leV (SG.drop 32))=leV (SG.drop 32)from by rw [d9w];exact if_pos hs]at cnw
    obtain⟨q,cq,hq⟩:=neg_e hp2
    obtain⟨r,cr,hr⟩:=both_s hq (l:=SG.drop 32) (m:=le (b3z (SG.take 32 ++ (key ++ m))) 32) hT (a0o _ _)
    rw [d2u]at hr
    have hb:(le (enc (Ed.Pt.mul (leV (SG.drop 32)) BB + Ed.Pt.mul (b3z (SG.take 32 ++ (key ++ m))) P.neg)) 32 == SG.take 32)=okV key SG m:=by
     rw [Bool.eq_iff_iff,b8q hP,beq_iff_eq]
     exact⟨fun h=>⟨hP,h8,hs,h⟩,fun h=>h.eq⟩
    refine d6q hk hg rfl rfl hR hT (a0o _ _) pv ps w hp hn cd cs cnw (h:=b3z (SG.take 32 ++ (key ++ m))) ?_ (SB:=SG.drop 32) ?_ (KB:=le (b3z (SG.take 32 ++ (key ++ m))) 32) (fun u=>Z.b3h _ u) cq cr (e1q hr rfl) hb
    ·intro u v z1 z2 hz
     exact e6s v _ _ u hz (by rw [←hj];rfl) (by simp;omega) (by simp [hk,hg];omega)
    ·intro u
     have:=Z.b3h (leV (SG.drop 32)) u
     rwa [zle,b5j hT]at this
   ·rw [hz,decide_eq_false hs]at cnw
    have e:okV key SG m=false:=a6c fun Q h=>hs h.lt
    rw [e]
    exact e4j hk hg rfl hT pv w cd cs cnw
 ·have e:okV key SG m=false:=a6c fun Q h=>hex ⟨Q,h.kb⟩
  rw [e]
  exact ver_no hk pv w (e3n hk fun P hP=>hex ⟨P,by rw [hP,b5j hk]⟩)
end Go.Proofs.YtdbngnlpafcogaaGreat
