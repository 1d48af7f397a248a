/-
  The sign: what is signed is right; what is not.
-/
import Derived.Test.YtdbngnlpafcogaaGreatZrSg6
set_option maxRecDepth 100000
namespace Go.Proofs.YtdbngnlpafcogaaGreat
open Go.RowKit Go.Mem Go.Txt
theorem d0p:∀(l:List UInt8) (i:Nat) (b:UInt8),i < l.length→leV (l.set i b) + (l.getD i 0).toNat * 256 ^ i=leV l + b.toNat * 256 ^ i
 | [],_,_,h=>absurd h (by simp)
 | a :: l,0,b,_=>by simp [leV];omega
 | a :: l,i + 1,b,h=>by
   have ih:=d0p l i b (by simpa using h)
   rw [List.set_cons_succ,leV,leV,List.getD_cons_succ,Nat.pow_succ,←Nat.mul_assoc,←Nat.mul_assoc]
   omega
theorem c8a{r x y L:Nat}(hL:0 < L)(h:(r + x) % L=(r + y) % L):x % L=y % L:=by
 have hc:r≤L * r:=Nat.le_mul_of_pos_left r hL
 have e:∀z,z % L=((r + z) % L + (L * r - r) % L) % L:=fun z=>by
  rw [←Nat.add_mod,show r + z + (L * r - r)=z + L * r from by omega,Nat.add_mul_mod_self_left]
 rw [e x,e y,h]
def c4p(bs:List UInt8):Nat:=leV (b2h bs)
theorem d4x(a:UInt8):(c7i a).toNat % 8=0:=by
 have h:=UInt8.toNat_lt a
 unfold c7i
 rw [UInt8.toNat_ofNat_of_lt' (by show a.toNat - a.toNat % 8 < 256;omega)]
 omega
theorem d9l(a:UInt8):64≤(c2v a).toNat∧(c2v a).toNat < 128:=by
 have h:=UInt8.toNat_lt a
 unfold c2v
 rw [UInt8.toNat_ofNat_of_lt' (by show a.toNat % 64 + 64 < 256;omega)]
 omega
theorem e2t(s:List UInt8)(h:32≤s.length):leV (a3h s) % 8=0∧0 < leV (a3h s)∧leV (a3h s) < 2 ^ 255:=by
 have hl:=b5d s h
 obtain⟨z,hz,h8⟩:∃z,a3h s=c7i (s.getD 0 0) :: z∧True:=by
  unfold a3h
  cases hs:s.take 32 with
  | nil=>
    have:=congrArg List.length hs
    rw [List.length_take]at this
    simp at this
    subst this
    simp at h
  | cons a l=>exact⟨_,rfl,trivial⟩
 have e1:leV (a3h s)=(c7i (s.getD 0 0)).toNat + 256 * leV z:=by rw [hz,leV]
 have m8:=d4x (s.getD 0 0)
 have hsn:a3h s=(a3h s).take 31 ++ [c2v (s.getD 31 0)]:=by
  conv=>lhs;rw [←List.take_append_drop 31 (a3h s)]
  congr 1
  rw [List.drop_eq_getElem_cons (by rw [hl];decide),List.drop_eq_nil_of_le (by rw [hl];decide)]
  congr 1
  unfold a3h
  simp
 have h31:((a3h s).take 31).length=31:=by simp [hl]
 have e2:leV (a3h s)=leV ((a3h s).take 31) + (c2v (s.getD 31 0)).toNat * 256 ^ 31:=by
  conv=>lhs;rw [hsn,a8f,h31]
 have hlt:=b1d ((a3h s).take 31)
 rw [h31]at hlt
 have ht:=d9l (s.getD 31 0)
 have h255:(2:Nat) ^ 255=128 * 256 ^ 31:=by decide +kernel
 have hp:0 < (256:Nat) ^ 31:=Nat.pow_pos (by decide)
 rw [h255]
 generalize (256:Nat) ^ 31=Q at *
 generalize (c2v (s.getD 31 0)).toNat=T at *
 generalize leV ((a3h s).take 31)=V at *
 have g1:=Nat.mul_le_mul_right Q ht.1
 have g2:=Nat.mul_le_mul_right Q (show T + 1≤128 by omega)
 rw [Nat.add_mul]at g2
 refine⟨by omega,by omega,by omega⟩
theorem numV_v(bs:List UInt8):c4p bs % 8=0∧0 < c4p bs∧c4p bs < 2 ^ 255:=e2t _ (by rw [Q.b1v];decide)
noncomputable def ptS (bs:List UInt8):Ed.Pt:=Ed.Pt.mul (c4p bs) BB
theorem e6g(bs:List UInt8):Ed.Pt.mul 8 (ptS bs)≠Ed.Pt.zero:=by
 intro e
 unfold ptS at e
 rw [←Ed.Pt.a5u]at e
 have hd:=ord_B e
 obtain⟨h8,h0,hlt⟩:=numV_v bs
 have hnd:¬LL ∣ 8:=by decide +kernel
 have ha:LL ∣ c4p bs:=(Nt.Pr.c4s pr_LL hd).elim id (fun h=>absurd h hnd)
 have hc:Nat.Coprime LL 8:=by show Nat.gcd LL 8=1;decide +kernel
 have:=Nat.le_of_dvd h0 (Nat.Coprime.mul_dvd_of_dvd_of_dvd hc ha (Nat.dvd_of_mod_eq_zero h8))
 have hb:2 ^ 255 < LL * 8:=by decide +kernel
 omega
theorem b9l(bs m:List UInt8):RS bs m=le (enc (Ed.Pt.mul (rS bs m) BB)) 32:=by unfold RS b8t;rw [show leV (le (rS bs m) 32)=rS bs m from d2u _]
theorem e4s(bs m:List UInt8):sS bs m < LL:=Nat.mod_lt _ (by decide +kernel)
theorem sS_T(bs m:List UInt8):leV (le (sS bs m) 32)=sS bs m:=by
 rw [a5d,Nat.mod_eq_of_lt (Nat.lt_trans (e4s bs m) (show LL < 2 ^ (8 * 32) by decide +kernel))]
theorem c0a(bs m:List UInt8):(RS bs m).length=32:=b0v _
theorem b7b(bs m t:List UInt8):(RS bs m ++ t).take 32=RS bs m:=by rw [←c0a bs m];simp
theorem b0y(bs m t:List UInt8):(RS bs m ++ t).drop 32=t:=by rw [←c0a bs m];simp
theorem e5h(bs m:List UInt8):(b1k bs m).length=64:=by
 have:=c0a bs m
 have:=a0o (sS bs m) 32
 unfold b1k
 rw [List.length_append]
 show(RS bs m).length + (le (sS bs m) 32).length=64
 omega
theorem d1p(bs m:List UInt8):Ed.Pt.mul (sS bs m) BB=Ed.Pt.mul (rS bs m) BB + Ed.Pt.mul (hS bs m) (ptS bs):=by
 have e:sS bs m=(rS bs m + c4p bs * hS bs m) % LL:=by
  unfold sS c4p
  rw [d9w,zLL,Nat.add_mod_mod,←Nat.add_mod_mod (rS bs m),Nat.mul_mod_mod,Nat.add_mod_mod,Nat.mul_comm]
 rw [e,←Ed.Pt.mul_mod BB b4t,Ed.Pt.mul_add,Ed.Pt.a5u]
 rfl
theorem d4g(bs:List UInt8):le (enc (ptS bs)) 32=b8t (b2h bs):=rfl
theorem e3l(bs m:List UInt8):okV (b8t (b2h bs)) (b1k bs m) m=true:=by
 refine c4i (P:=ptS bs) ⟨d4g bs,e6g bs,?_,?_⟩
 ·unfold b1k
  rw [b0y,sS_T]
  exact e4s bs m
 ·unfold b1k
  rw [b0y,b7b,sS_T,d1p,Ed.Pt.mul_neg,show b3z (RS bs m ++ (b8t (b2h bs) ++ m))=hS bs m from rfl,Ed.Pt.assoc,Ed.Pt.add_neg,Ed.Pt.add_zero,b9l]
theorem e3w{bs m m2:List UInt8}(h:b3z (RS bs m ++ (b8t (b2h bs) ++ m2)) * (c4p bs % LL) % LL≠hS bs m * (c4p bs % LL) % LL):okV (b8t (b2h bs)) (b1k bs m) m2=false:=by
 refine Bool.eq_false_iff.2 fun ht=>h ?_
 have:=((b8q (d4g bs)).1 ht).eq
 unfold b1k at this
 rw [b0y,b7b,sS_T,b9l,d1p,←b9l,Ed.Pt.mul_neg]at this
 generalize b3z (RS bs m ++ (b8t (b2h bs) ++ m2))=k at *
 have e:=a6k (this.trans (b9l bs m))
 have e2:Ed.Pt.mul (rS bs m) BB + Ed.Pt.mul (hS bs m) (ptS bs)=Ed.Pt.mul (rS bs m) BB + Ed.Pt.mul k (ptS bs):=by
  have:=congrArg (fun z=>z + Ed.Pt.mul k (ptS bs)) e
  rwa [Ed.Pt.assoc,Ed.Pt.comm _ (Ed.Pt.mul k (ptS bs)),Ed.Pt.add_neg,Ed.Pt.add_zero]at this
 unfold ptS at e2
 rw [←Ed.Pt.a5u,←Ed.Pt.a5u,←Ed.Pt.mul_add,←Ed.Pt.mul_add]at e2
 have e3:=d3e e2
 have hp:0 < LL:=by decide +kernel
 have e4:=c8a hp e3
 rw [Nat.mul_mod_mod,Nat.mul_mod_mod,Nat.mul_comm k,Nat.mul_comm (hS bs m),e4]
theorem d4r{bs m t:List UInt8}(h:leV t≠sS bs m):okV (b8t (b2h bs)) (RS bs m ++ t) m=false:=by
 refine Bool.eq_false_iff.2 fun ht=>h ?_
 have hk:=(b8q (d4g bs)).1 ht
 have hlt:=hk.lt
 have:=hk.eq
 rw [b0y]at hlt
 rw [b0y,b7b,b9l,←b9l,Ed.Pt.mul_neg,show b3z (RS bs m ++ (b8t (b2h bs) ++ m))=hS bs m from rfl]at this
 have e:=a6k (this.trans (b9l bs m))
 have e2:Ed.Pt.mul (leV t) BB=Ed.Pt.mul (sS bs m) BB:=by
  rw [d1p,←e,Ed.Pt.assoc,Ed.Pt.comm _ (Ed.Pt.mul (hS bs m) (ptS bs)),Ed.Pt.add_neg,Ed.Pt.add_zero]
 have:=d3e e2
 rwa [Nat.mod_eq_of_lt hlt,Nat.mod_eq_of_lt (e4s bs m)]at this
end Go.Proofs.YtdbngnlpafcogaaGreat
