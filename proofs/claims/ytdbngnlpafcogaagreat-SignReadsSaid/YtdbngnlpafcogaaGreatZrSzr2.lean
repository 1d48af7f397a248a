/-
  Scalars: what the document says.
-/
import Derived.Test.YtdbngnlpafcogaaGreatZrSzr
set_option maxRecDepth 100000
namespace Go.Proofs.YtdbngnlpafcogaaGreat.Z
open Go.RowKit Go.Mem
def dg(x i:Nat):Nat:=x / 256 ^ i % 256
theorem b6q(x i:Nat):dg x i < 256:=Nat.mod_lt _ (by decide)
theorem b1x(x i:Nat):x / 256 ^ i=256 * (x / 256 ^ (i + 1)) + dg x i:=by
 unfold dg
 rw [Nat.pow_succ,←Nat.div_div_eq_div_mul]
 omega
def dgs(x:Nat):List Int:=(List.range 33).map fun i=>(dg x i:Int)
theorem a6t(x:Nat):(dgs x).length=33:=by simp [dgs]
theorem e5u(x i:Nat)(h:i < 33):(dgs x)[i]'(by rw [a6t];exact h)=(dg x i:Int):=by simp [dgs]
theorem ord_at:∀k:Nat,k < 32→(#[Value.int .i64 237,.int .i64 211,.int .i64 245,.int .i64 92,.int .i64 26,.int .i64 99,.int .i64 18,.int .i64 88,.int .i64 214,.int .i64 156,.int .i64 247,.int .i64 162,.int .i64 222,.int .i64 249,.int .i64 222,.int .i64 20,.int .i64 0,.int .i64 0,.int .i64 0,.int .i64 0,.int .i64 0,.int .i64 0,.int .i64 0,.int .i64 0,.int .i64 0,.int .i64 0,.int .i64 0,.int .i64 0,.int .i64 0,.int .i64 0,.int .i64 0,.int .i64 16]:Array Value)[k]?=some (.int .i64 (dg LL k:Nat)):=by
 have h:∀k:_root_.Fin 32,(#[237,211,245,92,26,99,18,88,214,156,247,162,222,249,222,20,0,0,0,0,0,0,0,0,0,0,0,0,0,0,0,16]:Array Nat)[k.val]?=some (dg LL k.val):=by decide +kernel
 intro k hk
 have:=h ⟨k,hk⟩
 have e:(#[Value.int .i64 237,.int .i64 211,.int .i64 245,.int .i64 92,.int .i64 26,.int .i64 99,.int .i64 18,.int .i64 88,.int .i64 214,.int .i64 156,.int .i64 247,.int .i64 162,.int .i64 222,.int .i64 249,.int .i64 222,.int .i64 20,.int .i64 0,.int .i64 0,.int .i64 0,.int .i64 0,.int .i64 0,.int .i64 0,.int .i64 0,.int .i64 0,.int .i64 0,.int .i64 0,.int .i64 0,.int .i64 0,.int .i64 0,.int .i64 0,.int .i64 0,.int .i64 16]:Array Value)=(#[237,211,245,92,26,99,18,88,214,156,247,162,222,249,222,20,0,0,0,0,0,0,0,0,0,0,0,0,0,0,0,16]:Array Nat).map fun(z:Nat)=>Value.int .i64 (z:Int):=by simp
 rw [e,Array.getElem?_map,this]
 rfl
theorem b6c(k:Nat)(hk:k < 32)(w:World):Calls Tryz.prog 163 #[.int .i64 k] w fun e w'=>e= .returned (.int .i64 (dg LL k:Nat))∧Kept [] w w':=by
 have hc:∀W:World,(W.alloc (.cells #[Value.int .i64 237,.int .i64 211,.int .i64 245,.int .i64 92,.int .i64 26,.int .i64 99,.int .i64 18,.int .i64 88,.int .i64 214,.int .i64 156,.int .i64 247,.int .i64 162,.int .i64 222,.int .i64 249,.int .i64 222,.int .i64 20,.int .i64 0,.int .i64 0,.int .i64 0,.int .i64 0,.int .i64 0,.int .i64 0,.int .i64 0,.int .i64 0,.int .i64 0,.int .i64 0,.int .i64 0,.int .i64 0,.int .i64 0,.int .i64 0,.int .i64 0,.int .i64 16] 3)).cell? ⟨W.heap.size,k,none⟩=some (.int .i64 (dg LL k:Nat)):=fun W=>by
  rw [cell_of_row _ _ _ _ _ _ (heap_alloc_new W _)]
  exact ord_at k hk
 go_enter Tryz.func163,Tryz.ntmps163
 go_wp2_with fail
 go_ret
 exact⟨rfl,(Kept.refl [] w).alloc _⟩
theorem d4s{x i:Nat}(h:x / 256 ^ (i + 1)=LL / 256 ^ (i + 1))(hne:dg x i≠dg LL i):decide (x < LL)=decide (dg x i < dg LL i):=by
 have h1:=b1x x i
 have h2:=b1x LL i
 rw [h]at h1
 have hp:0 < 256 ^ i:=Nat.pow_pos (by decide)
 rw [decide_eq_decide]
 constructor
 ·intro hlt
  have:x / 256 ^ i≤LL / 256 ^ i:=Nat.div_le_div_right (Nat.le_of_lt hlt)
  omega
 ·intro hlt
  rcases Nat.lt_or_ge x LL with h3 | h3
  ·exact h3
  ·have:LL / 256 ^ i≤x / 256 ^ i:=Nat.div_le_div_right h3
   omega
theorem d6t{x i:Nat}(h:x / 256 ^ (i + 1)=LL / 256 ^ (i + 1))(he:dg x i=dg LL i):x / 256 ^ i=LL / 256 ^ i:=by
 rw [b1x x i,b1x LL i,h,he]
def b3k(x:Nat):Bool:=decide (x < LL)
theorem c8k{x:Nat}(h:dg x 32≠0):b3k x=false:=by
 unfold b3k
 refine decide_eq_false fun hlt=>h ?_
 unfold dg
 have:x / 256 ^ 32=0:=Nat.div_eq_of_lt (Nat.lt_trans hlt (by decide +kernel))
 rw [this]
theorem c2t{x:Nat}(hx:x < 256 ^ 33)(h:dg x 32=0):x / 256 ^ 32=LL / 256 ^ 32:=by
 have h1:x / 256 ^ 32 < 256:=by
  rw [Nat.div_lt_iff_lt_mul (Nat.pow_pos (by decide)),Nat.mul_comm,←Nat.pow_succ]
  exact hx
 unfold dg at h
 rw [Nat.mod_eq_of_lt h1]at h
 rw [h]
 decide +kernel
set_option maxHeartbeats 800000 in
theorem b6h(v:Value)(x:Nat)(w:World)(hr:Rd w 1 v 33 (iv (dgs x)))(hx:x < 256 ^ 33) :
 Calls Tryz.prog 111 #[v] w fun e w'=>e= .returned (.bool (b3k x))∧Kept [] w w':=by
 have hr2:=hjd hr
 obtain⟨b,o,c,rfl,hc,hcell⟩:=hr.at_ (by omega)
 have c32:=hcell 32 (.int .i64 (dg x 32:Nat)) (by simp [dgs])
 have hcell2:=hjd hcell
 have hx2:=hjd hx
 clear hr hcell hx
 by_cases h32:dg x 32=0
 ·have hst:=hjd (c2t hx2.out h32)
  rw [h32]at c32
  clear h32
  go_enter Tryz.func111,Tryz.ntmps111
  go_wp2_with fail
  go_loopg [3] 32 (fun f i wk=>∃m:Nat,f=m∧m≤32∧i= .int .i64 ((m:Int) - 1)∧x / 256 ^ m=LL / 256 ^ m∧Kept [] w wk)
  case atStart=>exact⟨32,rfl,Nat.le_refl _,rfl,hst.out,Kept.refl _ _⟩
  case round=>
   obtain⟨m,hf,hm,rfl,he,hk⟩:=hrel
   have he2:=hjd he
   have hk2:=hjd hk
   clear he hk
   by_cases hm0:0 < m
   ·have hi0:(0:Int)≤(m:Int) - 1:=by omega
    have hi1:(1:Int)≤(m:Int):=by omega
    have hS:=hjd (show Rd wr 1 (.slice (some ⟨b,o,none⟩) 33 c) 33 (iv (dgs x))from hr2.out.a1w hk2.out)
    have cm:∀u,Rd u 1 (.slice (some ⟨b,o,none⟩) 33 c) 33 (iv (dgs x))→u.cell? ⟨b,o + (m - 1),none⟩=some (.int .i64 (dg x (m - 1):Nat)):=fun u hu=>by
     obtain⟨b',o',c',he,_,hcc⟩:=hu.at_ (by omega)
     cases he
     exact hcc (m - 1) _ (by simp [dgs,show m - 1 < 33 from by omega])
    have cm2:=hjd cm
    have c1:=cm wr hS.out
    have ho:=hjd (b6c (m - 1) (by omega))
    have hcast:((m:Int) - 1)=((m - 1:Nat):Int):=by omega
    have hcast2:=hjd hcast
    clear cm hcast
    by_cases heq:dg x (m - 1)=dg LL (m - 1)
    ·have hn2:=hjd (show x / 256 ^ (m - 1)=LL / 256 ^ (m - 1)from d6t (by rw [show m - 1 + 1=m from by omega];exact he2.out) heq)
     rw [heq]at c1
     have heq2:=hjd heq
     clear heq
     go_wp2_with fail
     refine Txt.b0b [3] (fun u=>Rd u 1 (.slice (some ⟨b,o,none⟩) 33 c) 33 (iv (dgs x))) [[_,_,_,_,_,_],[_]] (by kernel_rfl) (by kernel_rfl) rfl hS.out.drew (Txt.a0h ?_)
     go_wp2_with fail
     rw [hcast2.out]
     refine(ho.out _).mono ?_
     rintro e w2 ⟨rfl,k2⟩
     have hS3:=hjd (show Rd w2 1 (.slice (some ⟨b,o,none⟩) 33 c) 33 (iv (dgs x))from hS.out.a1w k2.a1r)
     have k3:=hjd (hk2.out.a0i k2.a1r)
     clear k2
     go_wp2_with fail
     refine⟨rfl,hS3.out,Txt.a0h ?_⟩
     go_wp2_with fail
     refine⟨rfl,hS3.out,Txt.a1m ⟨⟨by kernel_rfl,?_⟩,?_⟩⟩
     ·intro j hj oo ho' _
      obtain rfl:j=3:=by simpa using hj
      cases ho'
      exact⟨15,rfl,fun u hu=>by
       have:=cm2.out u hu
       simp [execOp,Act.eval,Instr.loadAt,Instr.sureAddr,loadVar,isAgg,run_underlying Tryz.underlying3,this,heq2.out]⟩
     go_wp2_with fail
     go_roundg (m - 1)
     case measure=>omega
     case rel=>exact⟨m - 1,rfl,by omega,rfl,hn2.out,k3.out⟩
    ·have hbl:=d4s (x:=x) (i:=m - 1) (by rw [show m - 1 + 1=m from by omega];exact he2.out) heq
     have hne1:(((dg x (m - 1):Nat):Int) == ((dg LL (m - 1):Nat):Int))=false:=by
      rw [beq_eq_false_iff_ne];omega
     have hne2:¬((dg x (m - 1):Nat):Int)=((dg LL (m - 1):Nat):Int):=by omega
     have hbl2:=hjd hbl
     clear hbl
     go_wp2_with fail
     refine Txt.b0b [3] (fun u=>Rd u 1 (.slice (some ⟨b,o,none⟩) 33 c) 33 (iv (dgs x))) [[_,_,_,_,_,_],[_]] (by kernel_rfl) (by kernel_rfl) rfl hS.out.drew (Txt.a0h ?_)
     go_wp2_with fail
     rw [hcast2.out]
     refine(ho.out _).mono ?_
     rintro e w2 ⟨rfl,k2⟩
     have hS3:=hjd (show Rd w2 1 (.slice (some ⟨b,o,none⟩) 33 c) 33 (iv (dgs x))from hS.out.a1w k2.a1r)
     have k3:=hjd (hk2.out.a0i k2.a1r)
     clear k2
     go_wp2_with fail
     refine⟨rfl,hS3.out,Txt.a0h ?_⟩
     go_wp2_with fail
     refine⟨rfl,hS3.out,Txt.a1m ⟨⟨by kernel_rfl,?_⟩,?_⟩⟩
     ·intro j hj oo ho' _
      obtain rfl:j=3:=by simpa using hj
      cases ho'
      exact⟨15,rfl,fun u hu=>by
       have:=cm2.out u hu
       simp [execOp,Act.eval,Instr.loadAt,Instr.sureAddr,loadVar,isAgg,run_underlying Tryz.underlying3,this]⟩
     have c2:=cm2.out w2 hS3.out
     go_wp2_with fail
     refine Txt.b0b [3] (fun u=>Rd u 1 (.slice (some ⟨b,o,none⟩) 33 c) 33 (iv (dgs x))) [[_,_,_,_,_,_],[_,_]] (by kernel_rfl) (by kernel_rfl) rfl hS3.out.drew (Txt.a0h ?_)
     go_wp2_with fail
     refine(ho.out _).mono ?_
     rintro e w3 ⟨rfl,k4⟩
     have hS4:=hjd (show Rd w3 1 (.slice (some ⟨b,o,none⟩) 33 c) 33 (iv (dgs x))from hS3.out.a1w k4.a1r)
     have k5:=hjd (k3.out.a0i k4.a1r)
     clear k4
     go_wp2_with fail
     refine⟨rfl,hS4.out,Txt.a0h ?_⟩
     go_wp2_with fail
     refine⟨rfl,hS4.out,Txt.a1m ⟨⟨by kernel_rfl,?_⟩,?_⟩⟩
     ·intro j hj oo ho' _
      obtain rfl:j=3:=by simpa using hj
      cases ho'
      exact⟨22,rfl,fun u hu=>by
       have:=cm2.out u hu
       simp [execOp,Act.eval,Instr.loadAt,Instr.sureAddr,loadVar,isAgg,run_underlying Tryz.underlying3,this]⟩
     go_wp2_with fail
     go_ret
     refine⟨?_,k5.out⟩
     unfold b3k
     rw [hbl2.out]
     rfl
   ·obtain rfl:m=0:=by omega
    have hf0:=hjd (show b3k x=false from by
     have:=he2.out
     simp at this
     rw [this]
     exact decide_eq_false (Nat.lt_irrefl _))
    go_wp2_with fail
    go_ret
    exact⟨by rw [hf0.out];rfl,hk2.out⟩
 ·have hf0:=hjd (c8k h32)
  have hne2:¬((dg x 32:Nat):Int)=0:=by omega
  clear h32
  go_enter Tryz.func111,Tryz.ntmps111
  go_wp2_with fail
  go_ret
  exact⟨by rw [hf0.out];rfl,Kept.refl _ _⟩
end Go.Proofs.YtdbngnlpafcogaaGreat.Z
namespace Go.Proofs.YtdbngnlpafcogaaGreat.Z
def bw(x k:Nat):Nat:=if x % 256 ^ k < LL % 256 ^ k then 1 else 0
theorem d6s(x k:Nat):bw x k≤1:=by unfold bw;split <;> omega
theorem e5i(x:Nat):bw x 0=0:=by simp [bw,Nat.mod_one]
theorem d0n(x k:Nat):x % 256 ^ (k + 1)=x % 256 ^ k + 256 ^ k * dg x k:=by
 rw [Nat.pow_succ,Nat.mod_mul];rfl
theorem c2w(x k:Nat)(hx:LL≤x):((dg x k:Int) - bw x k - dg LL k < 0↔bw x (k + 1)=1)∧(dg (x - LL) k:Int)=(if (dg x k:Int) - bw x k - dg LL k < 0 then(dg x k:Int) - bw x k - dg LL k + 256 else(dg x k:Int) - bw x k - dg LL k):=by
 have hp:0 < 256 ^ k:=Nat.pow_pos (by decide)
 have m1:=d0n x k
 have m2:=d0n LL k
 have l1:x % 256 ^ k < 256 ^ k:=Nat.mod_lt _ hp
 have l2:LL % 256 ^ k < 256 ^ k:=Nat.mod_lt _ hp
 have d1:=b6q x k
 have d2:=b6q LL k
 have e1:x=256 ^ k * (x / 256 ^ k) + x % 256 ^ k:=(Nat.div_add_mod x (256 ^ k)).symm
 have e2:LL=256 ^ k * (LL / 256 ^ k) + LL % 256 ^ k:=(Nat.div_add_mod LL (256 ^ k)).symm
 have s1:=b1x x k
 have s2:=b1x LL k
 have hb:bw x (k + 1)=if x % 256 ^ k + 256 ^ k * dg x k < LL % 256 ^ k + 256 ^ k * dg LL k then 1 else 0:=by unfold bw;rw [m1,m2]
 have hbk:bw x k=if x % 256 ^ k < LL % 256 ^ k then 1 else 0:=rfl
 have hle:LL / 256 ^ k≤x / 256 ^ k:=Nat.div_le_div_right hx
 have key:(x - LL) / 256 ^ k=x / 256 ^ k - LL / 256 ^ k - bw x k∧bw x k≤x / 256 ^ k - LL / 256 ^ k:=by
  generalize x / 256 ^ k=X1 at *
  generalize LL / 256 ^ k=L1 at *
  generalize x % 256 ^ k=r at *
  generalize LL % 256 ^ k=s at *
  generalize bw x k=β at *
  generalize 256 ^ k=P at *
  by_cases hrs:r < s
  ·rw [if_pos hrs]at hbk
   subst hbk
   have hlt:L1 < X1:=by
    rcases Nat.lt_or_ge L1 X1 with h | h
    ·exact h
    ·exfalso
     have:P * X1≤P * L1:=Nat.mul_le_mul_left _ h
     omega
   refine⟨?_,by omega⟩
   obtain⟨D,rfl⟩:∃D,X1=L1 + 1 + D:=⟨X1 - L1 - 1,by omega⟩
   have h1:P * (L1 + 1 + D)=P * L1 + P + P * D:=by rw [Nat.mul_add,Nat.mul_add,Nat.mul_one]
   have h2:x - LL=P * D + (P + r - s):=by omega
   rw [h2,Nat.mul_add_div hp,Nat.div_eq_of_lt (by omega)]
   omega
  ·rw [if_neg hrs]at hbk
   subst hbk
   refine⟨?_,by omega⟩
   obtain⟨D,rfl⟩:∃D,X1=L1 + D:=⟨X1 - L1,by omega⟩
   have h1:P * (L1 + D)=P * L1 + P * D:=by rw [Nat.mul_add]
   have h2:x - LL=P * D + (r - s):=by omega
   rw [h2,Nat.mul_add_div hp,Nat.div_eq_of_lt (by omega)]
   omega
 have hd:dg (x - LL) k=(x - LL) / 256 ^ k % 256:=rfl
 rw [hd,key.1]
 have kl:=key.2
 rw [s1,s2]at kl hle ⊢
 clear key hd s1 s2 e1 e2 m1 m2
 have hbl:=d6s x k
 rw [hb]
 clear hb
 generalize x / 256 ^ (k + 1)=A at *
 generalize LL / 256 ^ (k + 1)=B at *
 generalize x % 256 ^ k=r at *
 generalize LL % 256 ^ k=s at *
 generalize bw x k=β at *
 generalize dg x k=a at *
 generalize dg LL k=b at *
 generalize 256 ^ k=P at *
 have hcmp:r + P * a < s + P * b↔(a:Int) - β - b < 0:=by
  rcases Nat.lt_trichotomy a b with h | h | h
  ·have:P * (a + 1)≤P * b:=Nat.mul_le_mul_left _ h
   rw [Nat.mul_add,Nat.mul_one]at this
   constructor <;> intro <;> omega
  ·subst h
   split at hbk <;> constructor <;> intro <;> omega
  ·have:P * (b + 1)≤P * a:=Nat.mul_le_mul_left _ h
   rw [Nat.mul_add,Nat.mul_one]at this
   constructor <;> intro hh
   ·omega
   ·split at hbk <;> omega
 constructor
 ·rw [←hcmp]
  split <;> simp_all
 ·split <;> omega
end Go.Proofs.YtdbngnlpafcogaaGreat.Z
namespace Go.Proofs.YtdbngnlpafcogaaGreat.Z
open Go.RowKit Go.Mem
theorem intT:SliceT Tryz.prog 53 3 1 8 (.int .i64 0):=⟨Tryz.underlying53,by kernel_rfl,rfl,by omega⟩
def stv(x k j:Nat):Int:=if j < k then(dg (x - LL) j:Int)else if j=k then(dg x k:Int) - bw x k else(dg x j:Int)
def st(x k:Nat):List Int:=(List.range 33).map (stv x k)
theorem a7i(x k:Nat):(st x k).length=33:=by simp [st]
theorem b0z(x k j:Nat)(h:j < 33):(st x k)[j]?=some (stv x k j):=by simp [st,h]
theorem e4i(x:Nat):st x 0=dgs x:=by
 unfold st dgs
 apply List.map_congr_left
 intro i _
 unfold stv
 rw [if_neg (by omega),e5i]
 split
 ·subst_vars;simp
 ·rfl
theorem st_end(x:Nat):st x 33=dgs (x - LL):=by
 unfold st dgs
 apply List.map_congr_left
 intro i hi
 unfold stv
 rw [if_pos (by simpa using hi)]
theorem e5q{l:List Int}{j:Nat}{z:Int}:(iv l).set j (.int .i64 z)=iv (l.set j z):=by simp [iv]
def d1(x k:Nat):Int:=(dg x k:Int) - bw x k - dg LL k
theorem st_neg(x k:Nat)(hx:LL≤x)(hk:k < 32)(h:d1 x k < 0):(((st x k).set k (d1 x k)).set k (d1 x k + 256)).set (k + 1) ((dg x (k + 1):Int) - 1)=st x (k + 1):=by
 obtain⟨h1,h2⟩:=c2w x k hx
 have hb:=h1.1 h
 unfold d1 at h
 rw [if_pos h]at h2
 apply List.ext_getElem?
 intro i
 rw [List.set_set,List.getElem?_set,List.getElem?_set]
 simp only [List.length_set,a7i]
 rcases Nat.lt_or_ge i 33 with hi | hi
 ·rw [b0z x k i hi,b0z x (k + 1) i hi]
  unfold stv
  by_cases e1:k + 1=i
  ·subst e1
   rw [if_pos rfl,if_pos hi,if_neg (by omega),if_pos rfl,hb];simp
  ·rw [if_neg e1]
   by_cases e2:k=i
   ·subst e2
    rw [if_pos rfl,if_pos hi,if_pos (by omega),h2];unfold d1;rfl
   ·rw [if_neg e2]
    by_cases e3:i < k
    ·rw [if_pos e3,if_pos (by omega)]
    ·rw [if_neg e3,if_neg (by omega),if_neg (by omega),if_neg (by omega)]
 ·rw [if_neg (by omega),if_neg (by omega),List.getElem?_eq_none (by rw [a7i];exact hi),List.getElem?_eq_none (by rw [a7i];exact hi)]
theorem e0x(x k:Nat)(hx:LL≤x)(hk:k < 33)(h:¬d1 x k < 0):(st x k).set k (d1 x k)=st x (k + 1):=by
 obtain⟨h1,h2⟩:=c2w x k hx
 have hb:bw x (k + 1)=0:=by
  have:=d6s x (k + 1)
  have h3:¬bw x (k + 1)=1:=fun e=>h (h1.2 e)
  omega
 unfold d1 at h
 rw [if_neg h]at h2
 apply List.ext_getElem?
 intro i
 rw [List.getElem?_set]
 simp only [a7i]
 rcases Nat.lt_or_ge i 33 with hi | hi
 ·rw [b0z x k i hi,b0z x (k + 1) i hi]
  unfold stv
  by_cases e2:k=i
  ·subst e2
   rw [if_pos rfl,if_pos hi,if_pos (by omega),h2];rfl
  ·rw [if_neg e2]
   by_cases e3:i < k
   ·rw [if_pos e3,if_pos (by omega)]
   ·rw [if_neg e3,if_neg (by omega),if_neg (by omega)]
    by_cases e4:i=k + 1
    ·subst e4;rw [if_pos rfl,hb];simp
    ·rw [if_neg e4]
 ·rw [if_neg (by omega),List.getElem?_eq_none (by rw [a7i];exact hi),List.getElem?_eq_none (by rw [a7i];exact hi)]
theorem last_pos(x:Nat)(hx:LL≤x)(hl:x < 256 ^ 33):¬d1 x 32 < 0:=by
 intro h
 have h2:=(c2w x 32 hx).1.1 h
 unfold bw at h2
 rw [Nat.mod_eq_of_lt hl,Nat.mod_eq_of_lt (by decide +kernel),if_neg (by omega)]at h2
 cases h2
theorem d1_bd(x k:Nat): -256≤d1 x k∧d1 x k≤255:=by
 have:=b6q x k;have:=b6q LL k;have:=d6s x k
 unfold d1;omega
theorem LL_32:dg LL 32=0:=by decide +kernel
structure Row (w:World) (g o c:Nat) (l:List Int):Prop where
 ow:Ow w 3 1 (.slice (some ⟨g,o,none⟩) 33 c) 33 (iv l)
theorem Row.cell{w:World}{g o c:Nat}{l:List Int}(h:Row w g o c l)(j:Nat)(z:Int)(hz:l[j]?=some z):w.cell? ⟨g,o + j,none⟩=some (.int .i64 z):=by
 obtain⟨g',o',c',he,_,hc,_⟩:=h.ow.at_ (by omega)
 cases he
 exact hc j _ (by simp [hz])
theorem Row.frozen{w:World}{g o c:Nat}{l:List Int}(h:Row w g o c l)(j:Nat):w.frozen? ⟨g,j,none⟩=false:=by
 obtain⟨g',o',c',he,_,_,hf,_⟩:=h.ow.at_ (by omega)
 cases he
 exact hf j
theorem Row.a9l{w:World}{g o c:Nat}{l:List Int}(h:Row w g o c l)(j:Nat)(z:Int)(hj:j < 33):Row (w.setCell ⟨g,o + j,none⟩ (.int .i64 z)) g o c (l.set j z):=by
 have hl:(iv l).length=33:=by have:=h.ow.1;omega
 obtain⟨g',o',c',he,_,_,_,hs⟩:=h.ow.at_ (by omega)
 cases he
 have:=hs j (.int .i64 z) (by omega)
 rw [e5q]at this
 exact⟨this⟩
theorem Row.kept{w w':World}{g o c:Nat}{l:List Int}(h:Row w g o c l)(hk:Kept [] w w'):Row w' g o c l:=⟨h.ow.a1w hk⟩
set_option maxHeartbeats 1600000 in
theorem d2l(v:Value)(x:Nat)(w:World)(hr:Rd w 1 v 33 (iv (dgs x)))(hx:LL≤x)(hl:x < 256 ^ 33) :
 Calls Tryz.prog 112 #[v] w fun e w'=>∃g o c,e= .returned (.slice (some ⟨g,o,none⟩) 33 c)∧Row w' g o c (dgs (x - LL))∧Kept [] w w'∧w.heap.size≤g:=by
 have hr2:=hjd hr
 obtain⟨b,o,c,rfl,hc,_⟩:=hr.at_ (by omega)
 have hx2:=hjd (And.intro hx hl)
 clear hr hx hl
 go_enter Tryz.func112,Tryz.ntmps112
 go_wp2_with (at_builtin;refine a4u intT rfl (.tmp 5) (.tmp 6) rfl rfl (xs:=[]) (n:=0) (Ow.b9r (a5q (by simp) rfl rfl (by omega))) rfl (hr2.out.alloc _) (d3f _) ?_ ?_ ?_)
 case refine_1=>omega
 case refine_2=>omega
 intro v' w1 hown hk hb
 have hk0:Kept [] w w1:=Kept.fresh ((Kept.refl [] w).alloc _) hk (by simp [Value.ownBlock])
 obtain⟨g,o',c',rfl,_,_,_,_⟩:=hown.at_ (by omega)
 have hge:w.heap.size≤g:=by
  rcases hb with hb | hb
  ·simp [Value.ownBlock]at hb;omega
  ·simp [Value.ownBlock]at hb;omega
 have R:=hjd (show Row w1 g o' c' (st x 0)from⟨by rw [e4i];exact hown⟩)
 have K:=hjd (And.intro hk0 hge)
 clear hown hk hb hk0 hge
 go_wp2_with fail
 go_loopg [4] 33 (fun f i wk=>∃k:Nat,k≤33∧f + k=33∧i= .int .i64 k∧Row wk g o' c' (st x k)∧Kept [g] w1 wk)
 case atStart=>exact⟨0,by omega,rfl,rfl,R.out,Kept.refl _ _⟩
 case round=>
  obtain⟨k,hk,hf,rfl,hb,hkw⟩:=hrel
  have H:=hjd hb
  have HK:=hjd hkw
  have hbd:=d1_bd x k
  clear hb hkw
  by_cases h33:k < 33
  ·by_cases h32:k < 32
   ·have c1:=H.out.cell k (stv x k k) (b0z x k k h33)
    have hsv:stv x k k=(dg x k:Int) - bw x k:=by unfold stv;rw [if_neg (by omega),if_pos rfl]
    rw [hsv]at c1
    have hd0:(dg x k:Int) - bw x k - dg LL k=d1 x k:=rfl
    have hwr:=IntWalk.i64_in (d1 x k) (by omega)
    have ho:=hjd (b6c k h32)
    have hf1:=H.out.frozen (o' + k)
    have b1:=b6q x k
    have b2:=d6s x k
    have b3:=b6q LL k
    have hcm:=hjd (fun(u:World) (hu:Row u g o' c' (st x k))=>by have:=hu.cell k (stv x k k) (b0z x k k h33);rwa [hsv]at this)
    go_wp2_with fail
    go_region_with (go_at_call 163;refine(ho.out _).mono ?_;rintro e w2 ⟨rfl,k2⟩;have H2:=hjd (H.out.kept k2.a1r);have HK2:=hjd (HK.out.a0i k2.a1r);have c2:=hcm.out w2 H2.out;have hf2:=H2.out.frozen (o' + k);clear k2)
    all_goals
     have H3:=hjd (H2.out.a9l k (d1 x k) h33)
     have HK3:=hjd (HK2.out.setCell (p:=⟨g,o' + k,none⟩) (.inl (by simp)) (Value.int .i64 (d1 x k)))
     generalize hW:w2.setCell ⟨g,o' + k,none⟩ (.int .i64 (d1 x k))=w3 at *
     clear hW c1 c2 hf1 hf2
     by_cases hneg:d1 x k < 0
     ·have c4:=H3.out.cell k (d1 x k) (by rw [List.getElem?_set];simp [a7i,h33])
      have hf4:=H3.out.frozen (o' + k)
      have H4:=hjd (H3.out.a9l k (d1 x k + 256) h33)
      have c5:=H4.out.cell (k + 1) (dg x (k + 1):Nat) (by
       rw [List.getElem?_set,if_neg (by omega),List.getElem?_set,if_neg (by omega),b0z x k (k + 1) (by omega)]
       unfold stv
       rw [if_neg (by omega),if_neg (by omega)])
      have hf5:=H4.out.frozen (o' + (k + 1))
      have b5:=b6q x (k + 1)
      have H5:=H4.out.a9l (k + 1) ((dg x (k + 1):Int) - 1) (by omega)
      rw [st_neg x k hx2.out.1 h32 hneg]at H5
      have H6:=hjd H5
      have HK6:=hjd ((HK3.out.setCell (p:=⟨g,o' + k,none⟩) (.inl (by simp)) (Value.int .i64 (d1 x k + 256))).setCell (p:=⟨g,o' + (k + 1),none⟩) (.inl (by simp)) (Value.int .i64 ((dg x (k + 1):Int) - 1)))
      clear H5
      go_wp2_with fail
      go_roundg (33 - (k + 1))
      case measure=>omega
      case rel=>exact⟨k + 1,by omega,by omega,by go_num,H6.out,HK6.out⟩
     ·have c4:=H3.out.cell k (d1 x k) (by rw [List.getElem?_set];simp [a7i,h33])
      have H5:=H3.out
      rw [e0x x k hx2.out.1 h33 hneg]at H5
      have H6:=hjd H5
      clear H5
      go_wp2_with fail
      go_roundg (33 - (k + 1))
      case measure=>omega
      case rel=>exact⟨k + 1,by omega,by omega,by go_num,H6.out,HK3.out⟩
   ·obtain rfl:k=32:=by omega
    have hneg:=last_pos x hx2.out.1 hx2.out.2
    have hsv:stv x 32 32=d1 x 32:=by
     unfold stv d1
     rw [if_neg (by omega),if_pos rfl,LL_32];simp
    have c1:=H.out.cell 32 (stv x 32 32) (b0z x 32 32 (by omega))
    rw [hsv]at c1
    have hS:=e0x x 32 hx2.out.1 (by omega) hneg
    have hS2:(st x 32).set 32 (d1 x 32)=st x 32:=by
     apply List.ext_getElem?
     intro i
     rw [List.getElem?_set]
     simp only [a7i]
     split
     ·subst_vars;simp [b0z x 32 32 (by omega),hsv]
     ·rfl
    rw [hS2]at hS
    have H6:=hjd (show Row wr g o' c' (st x 33)from hS▸H.out)
    clear hS hS2 hsv
    go_wp2_with fail
    go_roundg (33 - (32 + 1))
    case measure=>omega
    case rel=>exact⟨33,by omega,by omega,by go_num,H6.out,HK.out⟩
  ·obtain rfl:k=33:=by omega
   rw [st_end]at H
   go_wp2_with fail
   go_ret
   exact⟨g,o',c',rfl,H.out,K.out.1.a0n HK.out K.out.2,K.out.2⟩
end Go.Proofs.YtdbngnlpafcogaaGreat.Z
namespace Go.Proofs.YtdbngnlpafcogaaGreat.Z
open Go.RowKit Go.Mem
def dq(x c k:Nat):Nat:=(2 * (x % 256 ^ k) + c) / 256 ^ k
theorem e4c(x c:Nat):dq x c 0=c:=by simp [dq,Nat.mod_one]
theorem e5y(x c k:Nat)(hc:c≤1):dq x c k≤1∧(2 * dg x k + dq x c k) % 256=dg (2 * x + c) k∧(2 * dg x k + dq x c k) / 256=dq x c (k + 1):=by
 have hp:0 < 256 ^ k:=Nat.pow_pos (by decide)
 have m1:=d0n x k
 have l1:x % 256 ^ k < 256 ^ k:=Nat.mod_lt _ hp
 have e1:x=256 ^ k * (x / 256 ^ k) + x % 256 ^ k:=(Nat.div_add_mod x (256 ^ k)).symm
 have hd:dg x k=x / 256 ^ k % 256:=rfl
 have hy:dg (2 * x + c) k=(2 * x + c) / 256 ^ k % 256:=rfl
 have h1:(2 * x + c) / 256 ^ k=2 * (x / 256 ^ k) + dq x c k:=by
  have:2 * x + c=256 ^ k * (2 * (x / 256 ^ k)) + (2 * (x % 256 ^ k) + c):=by
   rw [Nat.mul_left_comm];omega
  rw [this,Nat.mul_add_div hp];rfl
 have h2:dq x c (k + 1)=(2 * dg x k + dq x c k) / 256:=by
  show(2 * (x % 256 ^ (k + 1)) + c) / 256 ^ (k + 1)=_
  rw [m1,Nat.pow_succ,←Nat.div_div_eq_div_mul]
  congr 1
  have:2 * (x % 256 ^ k + 256 ^ k * dg x k) + c=256 ^ k * (2 * dg x k) + (2 * (x % 256 ^ k) + c):=by
   rw [Nat.mul_add,Nat.mul_left_comm];omega
  rw [this,Nat.mul_add_div hp];rfl
 have h3:dq x c k≤1:=by
  have:dq x c k < 2:=by
   unfold dq
   rw [Nat.div_lt_iff_lt_mul hp];omega
  omega
 refine⟨h3,?_,h2.symm⟩
 rw [hy,h1,hd]
 omega
def d4i(x y k:Nat):List Int:=a6m (dgs x) 0 ((dgs y).take k)
theorem dmix0(x y:Nat):d4i x y 0=dgs x:=by unfold d4i;rw [d4p];simp
theorem dmix33(x y:Nat):d4i x y 33=dgs y:=by
 unfold d4i
 rw [List.take_of_length_le (by rw [a6t];exact Nat.le_refl _),a9y _ _ (by rw [a6t,a6t])]
theorem d9o(x y k:Nat)(hk:k < 33):(d4i x y k)[k]?=some (dg x k:Int):=by
 unfold d4i
 rw [b7l _ _ (by simp [a6t];omega)]
 rw [if_neg (by simp;omega)]
 simp [dgs,hk]
theorem d7t(x y k:Nat)(hk:k < 33):(d4i x y k).set k (dg y k:Int)=d4i x y (k + 1):=by
 have:=b4p (dgs x) (dgs y) k (by rw [a6t];exact hk) (by rw [a6t,a6t];exact Nat.le_refl _)
 rw [e5u y k hk]at this
 exact this
theorem d7s(bs:List UInt8)(i t:Nat)(h:i < bs.length)(ht:t < 8):bs[i].toNat / 2 ^ t % 2=leV bs / 2 ^ (8 * i + t) % 2:=by
 have h1:bs[i].toNat=leV bs / 2 ^ (8 * i) % 256:=by
  have e:=a8z bs
  have h2:bs[i]=(le (leV bs) bs.length)[i]'(by rw [a0o];exact h):=by simp only [e]
  rw [h2,a7p _ _ _ h,UInt8.toNat_ofNat']
  omega
 rw [h1,Nat.pow_add,←Nat.div_div_eq_div_mul]
 generalize leV bs / 2 ^ (8 * i)=U
 have e:256=2 ^ t * 2 ^ (8 - t):=by rw [←Nat.pow_add,show t + (8 - t)=8 from by omega]
 rw [e,Nat.mod_mul_right_div_self,show 8 - t=1 + (7 - t)from by omega,Nat.pow_add,Nat.pow_one,Nat.mod_mul_right_mod]
theorem b0n(q:Nat)(h:0 < q):2 ^ q / 2=2 ^ (q - 1):=by
 obtain⟨m,rfl⟩:∃m,q=m + 1:=⟨q - 1,by omega⟩
 rw [Nat.pow_succ,Nat.mul_div_cancel _ (by decide)];rfl
theorem le_dg(x i:Nat)(h:i < 32):(((le x 32)[i]'(by rw [a0o];exact h)).toNat:Int)=(dg x i:Int):=by
 rw [a7p x 32 i h,UInt8.toNat_ofNat']
 unfold dg
 rw [show(256:Nat) ^ i=2 ^ (8 * i)from by rw [Nat.pow_mul]]
 omega
theorem lt33{x:Nat}(h:x < 2 * LL):x < 256 ^ 33:=Nat.lt_trans h (by decide +kernel)
theorem e3i{x:Nat}(h:x < 2 * LL)(hg:LL≤x):x - LL=x % LL:=by
 rw [Nat.mod_eq_sub_mod hg,Nat.mod_eq_of_lt (by omega)]
theorem nil33:madeCells #[.int .i64 0] 33=(iv (dgs 0)).toArray:=by kernel_rfl
theorem mk33:∃Z:Array Value,Z=(iv (dgs 0)).toArray∧∀W:World,(Instr.makeSlice 53 (.int .i64 33) (.int .i64 33)).run Tryz.prog W= .ok (.slice (some ⟨W.heap.size,0,none⟩) 33 33) (W.alloc (.cells Z 3)):=
 ⟨_,nil33,fun W=>run_mk intT 33 (by omega) (by omega) W⟩
theorem Row.lt{w:World}{g o c:Nat}{l:List Int}(h:Row w g o c l):g < w.heap.size:=h.ow.lt rfl
theorem Row.c5o{w w':World}{g o c k:Nat}{l:List Int}(h:Row w g o c l)(hk:Kept [k] w w')(hn:g≠k):Row w' g o c l:=⟨h.ow.kept hk (fun x hx hm=>by
 have h1:g=x:=by simpa [Value.ownBlock]using hx
 have h2:x=k:=by simpa using hm
 exact hn (h1.trans h2))⟩
structure Acc (w0 w:World) (v:Value) (l:List Int):Prop where
 ex:∃g o c,v= .slice (some ⟨g,o,none⟩) 33 c∧Row w g o c l∧w0.heap.size≤g
 k:Kept [] w0 w
set_option maxHeartbeats 3200000 in
theorem c3y(v:Value)(bs:List UInt8)(w:World)(hr:Rd w 1 v bs.length (bv bs))(hl:bs.length≤1000) :
 Calls Tryz.prog 44 #[v] w fun e w'=>e= .returned (ab (le (leV bs % LL) 32))∧Kept [] w w':=by
 have hr2:=hjd hr
 obtain⟨A,c,rfl,_,_,_⟩:=hr
 obtain⟨Z,hZ,hmk⟩:=mk33
 have hZ2:=hjd hZ
 clear hZ
 go_enter Tryz.func44,Tryz.ntmps44
 go_wp2_with ((with_reducible refine a0e (o:=⟨some 2,_,_,_,_,_⟩) rfl rfl a4b ?_);intro g2 w2 m2)
 have hA0:Acc w2 (w2.alloc (.cells Z 3)) (.slice (some ⟨w2.heap.size,0,none⟩) 33 33) (dgs (leV bs / 2 ^ (8 * bs.length) % LL)):=by
  rw [Nat.div_eq_of_lt (a9j bs)]
  exact⟨⟨_,_,_,rfl,⟨Ow.b9r (a5q (xs:=iv (dgs 0)) rfl (by rw [hZ2.out]) (by simp [a6t]) (by omega))⟩,Nat.le_refl _⟩,(Kept.refl [] w2).alloc _⟩
 have A0:=hjd hA0
 have M:=hjd m2
 have far:=hjd (show∀W,Kept [] w2 W→Rd W 1 (.slice A bs.length c) bs.length (bv bs)from fun W hW=>(hr2.out.a1w m2.kept).a1w hW)
 clear hA0 m2
 go_loopg [4,3] bs.length (fun f i rv wk=>∃m:Nat,f=m∧m≤bs.length∧i= .int .i64 ((m:Int) - 1)∧Acc w2 wk rv (dgs (leV bs / 2 ^ (8 * m) % LL)))
 case atStart=>exact⟨bs.length,rfl,Nat.le_refl _,rfl,A0.out⟩
 case round=>
  obtain⟨m,hf,hm,rfl,⟨g,o,cc,rfl,hrow,hge⟩,hkw⟩:=hrel
  have R:=hjd hrow
  have HK:=hjd (And.intro hkw hge)
  clear hrow hkw hge
  by_cases hm0:0 < m
  ·have hi0:(0:Int)≤(m:Int) - 1:=by omega
   have hi1:(1:Int)≤(m:Int):=by omega
   go_wp2_with fail
   obtain⟨wo,rfl⟩:∃wo:World,wo=wr:=⟨_,rfl⟩
   go_loopg [5,3] 8 (fun f bt rv wk=>∃q B:Nat,f=q∧q≤8∧bt= .int .i64 (B:Int)∧B=2 ^ q / 2∧Acc w2 wk rv (dgs (leV bs / 2 ^ (8 * (m - 1) + q) % LL)))
   case atStart=>exact⟨8,128,rfl,Nat.le_refl _,rfl,rfl,⟨_,_,_,rfl,by rw [show 8 * (m - 1) + 8=8 * m from by omega];exact R.out,HK.out.2⟩,HK.out.1⟩
   case round=>
    obtain⟨q,B,hf2,hq,rfl,hB,⟨g',o',cc',rfl,hrow,hge⟩,hkw⟩:=hrel
    have R2:=hjd hrow
    have HK2:=hjd (And.intro hkw hge)
    have hB2:=hjd hB
    clear hrow hkw hge
    by_cases hq0:0 < q
    ·have hB1:1≤B:=by rw [hB,b0n q hq0];exact Nat.one_le_two_pow
     have hB8:B≤128:=by
      rw [hB,b0n q hq0]
      exact Nat.le_trans (Nat.pow_le_pow_right (by decide) (show q - 1≤7 from by omega)) (by decide)
     obtain⟨cb,hcb⟩:∃cb,cb=leV bs / 2 ^ (8 * (m - 1) + (q - 1)) % 2:=⟨_,rfl⟩
     obtain⟨X,hX⟩:∃X,X=leV bs / 2 ^ (8 * (m - 1) + q) % LL:=⟨_,rfl⟩
     rw [←hX]at R2
     have hXL:X < LL:=by rw [hX];exact Nat.mod_lt _ b5y
     have hc1:cb≤1:=by omega
     have hbit:(wrap64 (((bs[m - 1].toNat:Nat):Int) / (B:Int))).tmod 2=(cb:Int):=by
      obtain⟨Q,hQ⟩:∃Q,Q=bs[m - 1].toNat / B:=⟨_,rfl⟩
      have h1:((bs[m - 1].toNat:Nat):Int) / (B:Int)=(Q:Int):=by rw [hQ];rfl
      have h2:Q≤bs[m - 1].toNat:=by rw [hQ];exact Nat.div_le_self _ _
      have h3:=UInt8.toNat_lt bs[m - 1]
      have e:cb=Q % 2:=by rw [hcb,←d7s bs (m - 1) (q - 1) (by omega) (by omega),←b0n q hq0,←hB,hQ]
      rw [h1,IntWalk.wrap64_in _ ⟨by omega,by omega⟩,Int.tmod_eq_emod_of_nonneg (by omega),e]
      rfl
     have hnext:(2 * X + cb) % LL=leV bs / 2 ^ (8 * (m - 1) + (q - 1)) % LL:=by
      rw [hX,hcb]
      have:=c0s (leV bs) (8 * (m - 1) + (q - 1))
      rwa [show 8 * (m - 1) + (q - 1) + 1=8 * (m - 1) + q from by omega]at this
     obtain⟨xb,xo,xc,hxe,_,hcell⟩:=(far.out _ HK2.out.1).at_ (by omega)
     cases hxe
     have c0:=hcell (m - 1) (a1s bs[m - 1]) (by simp [show m - 1 < bs.length from by omega])
     unfold a1s at c0
     have F:=hjd (And.intro hXL hnext)
     have bb:=UInt8.toNat_lt bs[m - 1]
     clear hB hcb hX hXL hnext hcell
     go_wp2_with fail
     obtain⟨wp,rfl⟩:∃wp:World,wp=wr:=⟨_,rfl⟩
     have R3:=hjd (show Row wp g' o' cc' (d4i X (2 * X + cb) 0) by rw [dmix0];exact R2.out)
     go_loopg [7,6] 33 (fun f i cv wk=>∃k:Nat,k≤33∧f + k=33∧i= .int .i64 k∧cv= .int .i64 (dq X cb k:Nat)∧Row wk g' o' cc' (d4i X (2 * X + cb) k)∧Kept [g'] wp wk)
     case atStart=>exact⟨0,by omega,rfl,rfl,by rw [e4c],R3.out,Kept.refl _ _⟩
     case round=>
      obtain⟨k,hk,hf3,rfl,rfl,hrk,hkk⟩:=hrel
      by_cases hlt:k < 33
      ·obtain⟨d1,d2,d3⟩:=e5y X cb k hc1
       have c1:=hrk.cell k (dg X k:Nat) (d9o X _ k hlt)
       have hf1:=hrk.frozen (o' + k)
       have b1:=b6q X k
       have e1:(2 * ((dg X k:Nat):Int) + ((dq X cb k:Nat):Int)) % 256=((dg (2 * X + cb) k:Nat):Int):=by rw [←d2];omega
       have e2:(2 * ((dg X k:Nat):Int) + ((dq X cb k:Nat):Int)) / 256=((dq X cb (k + 1):Nat):Int):=by rw [←d3];omega
       have H5:=hrk.a9l k (dg (2 * X + cb) k:Nat) hlt
       rw [d7t _ _ _ hlt]at H5
       have H6:=hjd H5
       have HK6:=hjd (hkk.setCell (p:=⟨g',o' + k,none⟩) (.inl (by simp)) (Value.int .i64 (dg (2 * X + cb) k:Nat)))
       clear hrk hkk H5 d2 d3
       go_wp2_with fail
       go_roundg (33 - (k + 1))
       case measure=>omega
       case rel=>exact⟨k + 1,by omega,by omega,by go_num,by rw [e2],H6.out,HK6.out⟩
      ·obtain rfl:k=33:=by omega
       rw [dmix33]at hrk
       have hY:2 * X + cb < 2 * LL:=by have:=F.out.1;omega
       have hrd:=hjd (Rd.b1p hrk.ow)
       have H7:=hjd hrk
       have HK7:=hjd (HK2.out.1.a0n hkk HK2.out.2)
       have hY2:=hjd hY
       clear hrk hkk hY
       by_cases hYL:2 * X + cb < LL
       ·have hb1:b3k (2 * X + cb)=true:=decide_eq_true hYL
        have hn:=hjd (show 2 * X + cb=leV bs / 2 ^ (8 * (m - 1) + (q - 1)) % LL by rw [←F.out.2,Nat.mod_eq_of_lt hYL])
        clear hYL
        go_wp2_with (go_at_call 111;refine(b6h _ (2 * X + cb) _ hrd.out (lt33 hY2.out)).mono ?_;rw [hb1];rintro e w6 ⟨rfl,k6⟩;have H8:=hjd (H7.out.kept k6);have HK8:=hjd (HK7.out.a0i k6);clear k6)
        go_roundg (q - 1)
        case measure=>omega
        case rel=>exact⟨q - 1,B / 2,by omega,by omega,by go_num,by rw [hB2.out,b0n q hq0],⟨_,_,_,rfl,by have:=H8.out;rwa [hn.out]at this,HK2.out.2⟩,HK8.out⟩
       ·have hb1:b3k (2 * X + cb)=false:=decide_eq_false hYL
        have hn:=hjd (show 2 * X + cb - LL=leV bs / 2 ^ (8 * (m - 1) + (q - 1)) % LL by rw [e3i hY2.out (by omega),F.out.2])
        have hge:=hjd (show LL≤2 * X + cb by omega)
        clear hYL
        go_wp2_with (first
         | (go_at_call 111;refine(b6h _ (2 * X + cb) _ hrd.out (lt33 hY2.out)).mono ?_;rw [hb1];rintro e w6 ⟨rfl,k6⟩;have hrd2:=hjd (hrd.out.a1w k6);have HK8:=hjd (HK7.out.a0i k6);clear k6)
         | (go_at_call 112;refine(d2l _ (2 * X + cb) _ hrd2.out hge.out (lt33 hY2.out)).mono ?_;rintro e w7 ⟨g9,o9,c9,rfl,r9,k9,l9⟩;have H9:=hjd (And.intro r9 (And.intro (HK8.out.a0i k9) (Nat.le_trans HK8.out.size l9)));clear r9 k9 l9))
        go_roundg (q - 1)
        case measure=>omega
        case rel=>exact⟨q - 1,B / 2,by omega,by omega,by go_num,by rw [hB2.out,b0n q hq0],⟨_,_,_,rfl,by have:=H9.out.1;rwa [hn.out]at this,H9.out.2.2⟩,H9.out.2.1⟩
    ·obtain rfl:q=0:=by omega
     have hB0:B=0:=by rw [hB]
     clear hB hB2
     subst hB0
     rw [Nat.add_zero]at R2
     go_wp2_with fail
     go_roundg (m - 1)
     case measure=>omega
     case rel=>exact⟨m - 1,by omega,by omega,by go_num,⟨_,_,_,rfl,R2.out,HK2.out.2⟩,HK2.out.1⟩
  ·obtain rfl:m=0:=by omega
   rw [Nat.mul_zero,Nat.pow_zero,Nat.div_one]at R
   obtain⟨X,hX⟩:∃X,X=leV bs % LL:=⟨_,rfl⟩
   rw [←hX]at R
   have hX2:=hjd hX
   clear hX
   go_wp2_with ((with_reducible refine a0e (o:=⟨some 9,_,_,_,_,_⟩) rfl rfl a4b ?_);intro g5 w5 m5)
   have R5:=hjd (R.out.kept m5.kept)
   have B5:=hjd m5.blk
   have N:=hjd (And.intro (M.out.kept.a0i (HK.out.1.a0i m5.kept)) (And.intro (Nat.le_trans M.out.kept.size (Nat.le_trans HK.out.1.size m5.le)) (And.intro (m5.ne (HK.out.1.lt M.out.blk.lt)) (m5.ne R.out.lt))))
   have B2:=hjd ((M.out.blk.kept HK.out.1 (by simp)).kept m5.kept (by simp))
   clear m5
   go_loopg [54] 32 (fun f i wk=>∃k:Nat,k≤32∧f + k=32∧i= .int .i64 k∧Blk wk g5 22 (bv (a6m (a0s 32) 0 ((le X 32).take k))).toArray∧Kept [g5] w5 wk)
   case atStart=>exact⟨0,Nat.zero_le _,rfl,rfl,B5.out,Kept.refl _ _⟩
   case round=>
    obtain⟨k,hk,hf,rfl,hb,hkw⟩:=hrel
    by_cases hlt:k < 32
    ·have hr5:Row wr g o cc (dgs X):=R5.out.c5o hkw N.out.2.2.2
     have c1:=hr5.cell k (dg X k:Nat) (by simp [dgs,show k < 33 from by omega])
     have hfz:=hb.frozen k
     have c3:=hb.d4j k (by rw [a5o _ _ _ (by simp [a0o];omega)];simpa using hlt)
     have b1:=b6q X k
     have hst:=hb.a9l k (a1s ((le X 32)[k]'(by rw [a0o];exact hlt)))
     rw [a8h (a0s 32) (le X 32) k (by rw [a0o];exact hlt) (by simp [a0o])]at hst
     have hk2:=hkw.setCell (p:=⟨g5,k,none⟩) (.inl (by simp)) (a1s ((le X 32)[k]'(by rw [a0o];exact hlt)))
     unfold a1s at hst hk2
     rw [le_dg X k hlt]at hst hk2
     have hst2:=hjd hst
     have hk3:=hjd hk2
     have hw8:IntKind.u8.wrap ((dg X k:Nat):Int)=((dg X k:Nat):Int):=by simp [IntKind.wrap,IntKind.bits,IntKind.signed];omega
     have hw9:((dg X k:Nat):Int) % 256=((dg X k:Nat):Int):=by omega
     clear hst hk2 hb hkw hr5
     go_wp2_with fail
     go_roundg (32 - (k + 1))
     case measure=>omega
     case rel=>exact⟨k + 1,by omega,by omega,by go_num,hst2.out,hk3.out⟩
    ·obtain rfl:k=32:=by omega
     have hb2:=hjd hb
     have hk2:=hjd hkw
     clear hb hkw
     rw [List.take_of_length_le (by rw [a0o];exact Nat.le_refl _),a9y _ _ (by rw [a0o];rfl)]at hb2
     go_wp2_with (first
      | (refine a0q a1x rfl (.tmp 9) rfl rfl hb2.out (by simp [a0o]) ?_)
      | (refine a1u a1x rfl (.tmp 2) (.tmp 65) rfl rfl rfl (B2.out.kept hk2.out (by have:=N.out.2.2.1;simpa using this)) rfl (by simp [a0o]) (a2v _) ?_;intro w6 b6 k6))
     exact a5x a1x rfl rfl b6 (by simp [a0o]) rfl ⟨by rw [hX2.out],(N.out.1.a0n hk2.out N.out.2.1).a0n k6 M.out.le⟩
end Go.Proofs.YtdbngnlpafcogaaGreat.Z
namespace Go.Proofs.YtdbngnlpafcogaaGreat.Z
open Go.RowKit Go.Mem
end Go.Proofs.YtdbngnlpafcogaaGreat.Z
namespace Go.Proofs.YtdbngnlpafcogaaGreat.Z
open Go.RowKit Go.Mem
end Go.Proofs.YtdbngnlpafcogaaGreat.Z
