/-
  The sign: what is signed is right; what is not.
-/
import Derived.Test.YtdbngnlpafcogaaGreatZmSg6
set_option maxRecDepth 100000
namespace Go.Proofs.YtdbngnlpafcogaaGreat
open Go.RowKit Go.Mem Go.Txt
theorem c8q:∀(l:List UInt8) (i:Nat) (b:UInt8),i < l.length→leV (l.set i b) + (l.getD i 0).toNat * 256 ^ i=leV l + b.toNat * 256 ^ i
 | [],_,_,h=>absurd h (by simp)
 | a :: l,0,b,_=>by simp [leV];omega
 | a :: l,i + 1,b,h=>by
   have ih:=c8q l i b (by simpa using h)
   rw [List.set_cons_succ,leV,leV,List.getD_cons_succ,Nat.pow_succ,←Nat.mul_assoc,←Nat.mul_assoc]
   omega
theorem c7o{r x y L:Nat}(hL:0 < L)(h:(r + x) % L=(r + y) % L):x % L=y % L:=by
 have hc:r≤L * r:=Nat.le_mul_of_pos_left r hL
 have e:∀z,z % L=((r + z) % L + (L * r - r) % L) % L:=fun z=>by
  rw [←Nat.add_mod,show r + z + (L * r - r)=z + L * r from by omega,Nat.add_mul_mod_self_left]
 rw [e x,e y,h]
def b3d(bs:List UInt8):Nat:=leV (a7q bs)
theorem d8k(a:UInt8):(b9z a).toNat % 8=0:=by
 have h:=UInt8.toNat_lt a
 unfold b9z
 rw [UInt8.toNat_ofNat_of_lt' (by show a.toNat - a.toNat % 8 < 256;omega)]
 omega
theorem d7a(a:UInt8):64≤(b7c a).toNat∧(b7c a).toNat < 128:=by
 have h:=UInt8.toNat_lt a
 unfold b7c
 rw [UInt8.toNat_ofNat_of_lt' (by show a.toNat % 64 + 64 < 256;omega)]
 omega
theorem e4z(s:List UInt8)(h:32≤s.length):leV (a2u s) % 8=0∧0 < leV (a2u s)∧leV (a2u s) < 2 ^ 255:=by
 have hl:=b0m s h
 obtain⟨z,hz,h8⟩:∃z,a2u s=b9z (s.getD 0 0) :: z∧True:=by
  unfold a2u
  cases hs:s.take 32 with
  | nil=>
    have:=congrArg List.length hs
    rw [List.length_take]at this
    simp at this
    subst this
    simp at h
  | cons a l=>exact⟨_,rfl,trivial⟩
 have e1:leV (a2u s)=(b9z (s.getD 0 0)).toNat + 256 * leV z:=by rw [hz,leV]
 have m8:=d8k (s.getD 0 0)
 have hsn:a2u s=(a2u s).take 31 ++ [b7c (s.getD 31 0)]:=by
  conv=>lhs;rw [←List.take_append_drop 31 (a2u s)]
  congr 1
  rw [List.drop_eq_getElem_cons (by rw [hl];decide),List.drop_eq_nil_of_le (by rw [hl];decide)]
  congr 1
  unfold a2u
  simp
 have h31:((a2u s).take 31).length=31:=by simp [hl]
 have e2:leV (a2u s)=leV ((a2u s).take 31) + (b7c (s.getD 31 0)).toNat * 256 ^ 31:=by
  conv=>lhs;rw [hsn,a8o,h31]
 have hlt:=b1y ((a2u s).take 31)
 rw [h31]at hlt
 have ht:=d7a (s.getD 31 0)
 have h255:(2:Nat) ^ 255=128 * 256 ^ 31:=by decide +kernel
 have hp:0 < (256:Nat) ^ 31:=Nat.pow_pos (by decide)
 rw [h255]
 generalize (256:Nat) ^ 31=Q at *
 generalize (b7c (s.getD 31 0)).toNat=T at *
 generalize leV ((a2u s).take 31)=V at *
 have g1:=Nat.mul_le_mul_right Q ht.1
 have g2:=Nat.mul_le_mul_right Q (show T + 1≤128 by omega)
 rw [Nat.add_mul]at g2
 refine⟨by omega,by omega,by omega⟩
theorem numV_v(bs:List UInt8):b3d bs % 8=0∧0 < b3d bs∧b3d bs < 2 ^ 255:=e4z _ (by rw [Q.a6g];decide)
noncomputable def ptS (bs:List UInt8):Ed.Pt:=Ed.Pt.mul (b3d bs) BB
theorem e3n(bs:List UInt8):Ed.Pt.mul 8 (ptS bs)≠Ed.Pt.zero:=by
 intro e
 unfold ptS at e
 rw [←Ed.Pt.a6c]at e
 have hd:=ord_B e
 obtain⟨h8,h0,hlt⟩:=numV_v bs
 have hnd:¬LL ∣ 8:=by decide +kernel
 have ha:LL ∣ b3d bs:=(Nt.Pr.c4x pr_LL hd).elim id (fun h=>absurd h hnd)
 have hc:Nat.Coprime LL 8:=by show Nat.gcd LL 8=1;decide +kernel
 have:=Nat.le_of_dvd h0 (Nat.Coprime.mul_dvd_of_dvd_of_dvd hc ha (Nat.dvd_of_mod_eq_zero h8))
 have hb:2 ^ 255 < LL * 8:=by decide +kernel
 omega
theorem c1e(bs m:List UInt8):RS bs m=le (enc (Ed.Pt.mul (rS bs m) BB)) 32:=by unfold RS b3b;rw [show leV (le (rS bs m) 32)=rS bs m from c3k _]
theorem e3e(bs m:List UInt8):sS bs m < LL:=Nat.mod_lt _ (by decide +kernel)
theorem sS_T(bs m:List UInt8):leV (le (sS bs m) 32)=sS bs m:=by
 rw [a5f,Nat.mod_eq_of_lt (Nat.lt_trans (e3e bs m) (show LL < 2 ^ (8 * 32) by decide +kernel))]
theorem c0y(bs m:List UInt8):(RS bs m).length=32:=a5i _
theorem b7w(bs m t:List UInt8):(RS bs m ++ t).take 32=RS bs m:=by rw [←c0y bs m];simp
theorem b0h(bs m t:List UInt8):(RS bs m ++ t).drop 32=t:=by rw [←c0y bs m];simp
theorem d2z(bs m:List UInt8):(a9r bs m).length=64:=by
 have:=c0y bs m
 have:=a0o (sS bs m) 32
 unfold a9r
 rw [List.length_append]
 show(RS bs m).length + (le (sS bs m) 32).length=64
 omega
theorem c9l(bs m:List UInt8):Ed.Pt.mul (sS bs m) BB=Ed.Pt.mul (rS bs m) BB + Ed.Pt.mul (hS bs m) (ptS bs):=by
 have e:sS bs m=(rS bs m + b3d bs * hS bs m) % LL:=by
  unfold sS b3d
  rw [c7w,zLL,Nat.add_mod_mod,←Nat.add_mod_mod (rS bs m),Nat.mul_mod_mod,Nat.add_mod_mod,Nat.mul_comm]
 rw [e,←Ed.Pt.mul_mod BB b3l,Ed.Pt.mul_add,Ed.Pt.a6c]
 rfl
theorem d0q(bs:List UInt8):le (enc (ptS bs)) 32=b3b (a7q bs):=rfl
theorem c1v(bs m:List UInt8):okV (b3b (a7q bs)) (a9r bs m) m=true:=by
 refine c4c (P:=ptS bs) ⟨d0q bs,e3n bs,?_,?_⟩
 ·unfold a9r
  rw [b0h,sS_T]
  exact e3e bs m
 ·unfold a9r
  rw [b0h,b7w,sS_T,c9l,Ed.Pt.mul_neg,show b5e (RS bs m ++ (b3b (a7q bs) ++ m))=hS bs m from rfl,Ed.Pt.assoc,Ed.Pt.add_neg,Ed.Pt.add_zero,c1e]
theorem e6u{bs m m2:List UInt8}(h:b5e (RS bs m ++ (b3b (a7q bs) ++ m2)) * (b3d bs % LL) % LL≠hS bs m * (b3d bs % LL) % LL):okV (b3b (a7q bs)) (a9r bs m) m2=false:=by
 refine Bool.eq_false_iff.2 fun ht=>h ?_
 have:=((c2p (d0q bs)).1 ht).eq
 unfold a9r at this
 rw [b0h,b7w,sS_T,c1e,c9l,←c1e,Ed.Pt.mul_neg]at this
 generalize b5e (RS bs m ++ (b3b (a7q bs) ++ m2))=k at *
 have e:=a9c (this.trans (c1e bs m))
 have e2:Ed.Pt.mul (rS bs m) BB + Ed.Pt.mul (hS bs m) (ptS bs)=Ed.Pt.mul (rS bs m) BB + Ed.Pt.mul k (ptS bs):=by
  have:=congrArg (fun z=>z + Ed.Pt.mul k (ptS bs)) e
  rwa [Ed.Pt.assoc,Ed.Pt.comm _ (Ed.Pt.mul k (ptS bs)),Ed.Pt.add_neg,Ed.Pt.add_zero]at this
 unfold ptS at e2
 rw [←Ed.Pt.a6c,←Ed.Pt.a6c,←Ed.Pt.mul_add,←Ed.Pt.mul_add]at e2
 have e3:=d1e e2
 have hp:0 < LL:=by decide +kernel
 have e4:=c7o hp e3
 rw [Nat.mul_mod_mod,Nat.mul_mod_mod,Nat.mul_comm k,Nat.mul_comm (hS bs m),e4]
theorem d5h{bs m t:List UInt8}(h:leV t≠sS bs m):okV (b3b (a7q bs)) (RS bs m ++ t) m=false:=by
 refine Bool.eq_false_iff.2 fun ht=>h ?_
 have hk:=(c2p (d0q bs)).1 ht
 have hlt:=hk.lt
 have:=hk.eq
 rw [b0h]at hlt
 rw [b0h,b7w,c1e,←c1e,Ed.Pt.mul_neg,show b5e (RS bs m ++ (b3b (a7q bs) ++ m))=hS bs m from rfl]at this
 have e:=a9c (this.trans (c1e bs m))
 have e2:Ed.Pt.mul (leV t) BB=Ed.Pt.mul (sS bs m) BB:=by
  rw [c9l,←e,Ed.Pt.assoc,Ed.Pt.comm _ (Ed.Pt.mul (hS bs m) (ptS bs)),Ed.Pt.add_neg,Ed.Pt.add_zero]
 have:=d1e e2
 rwa [Nat.mod_eq_of_lt hlt,Nat.mod_eq_of_lt (e3e bs m)]at this
end Go.Proofs.YtdbngnlpafcogaaGreat
