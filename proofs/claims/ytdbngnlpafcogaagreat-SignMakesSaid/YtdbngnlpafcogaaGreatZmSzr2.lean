/-
  Scalars: what the document says.
-/
import Derived.Test.YtdbngnlpafcogaaGreatZmSzr
set_option maxRecDepth 100000
namespace Go.Proofs.YtdbngnlpafcogaaGreat.Z
open Go.RowKit Go.Mem
def dg(x i:Nat):Nat:=x / 256 ^ i % 256
theorem a7p(x i:Nat):dg x i < 256:=Nat.mod_lt _ (by decide)
theorem b1u(x i:Nat):x / 256 ^ i=256 * (x / 256 ^ (i + 1)) + dg x i:=by
 unfold dg
 rw [Nat.pow_succ,←Nat.div_div_eq_div_mul]
 omega
def dgs(x:Nat):List Int:=(List.range 33).map fun i=>(dg x i:Int)
theorem a6z(x:Nat):(dgs x).length=33:=by simp [dgs]
theorem e2n(x i:Nat)(h:i < 33):(dgs x)[i]'(by rw [a6z];exact h)=(dg x i:Int):=by simp [dgs]
theorem ord_at:∀k:Nat,k < 32→(#[Value.int .i64 237,.int .i64 211,.int .i64 245,.int .i64 92,.int .i64 26,.int .i64 99,.int .i64 18,.int .i64 88,.int .i64 214,.int .i64 156,.int .i64 247,.int .i64 162,.int .i64 222,.int .i64 249,.int .i64 222,.int .i64 20,.int .i64 0,.int .i64 0,.int .i64 0,.int .i64 0,.int .i64 0,.int .i64 0,.int .i64 0,.int .i64 0,.int .i64 0,.int .i64 0,.int .i64 0,.int .i64 0,.int .i64 0,.int .i64 0,.int .i64 0,.int .i64 16]:Array Value)[k]?=some (.int .i64 (dg LL k:Nat)):=by
 have h:∀k:_root_.Fin 32,(#[237,211,245,92,26,99,18,88,214,156,247,162,222,249,222,20,0,0,0,0,0,0,0,0,0,0,0,0,0,0,0,16]:Array Nat)[k.val]?=some (dg LL k.val):=by decide +kernel
 intro k hk
 have:=h ⟨k,hk⟩
 have e:(#[Value.int .i64 237,.int .i64 211,.int .i64 245,.int .i64 92,.int .i64 26,.int .i64 99,.int .i64 18,.int .i64 88,.int .i64 214,.int .i64 156,.int .i64 247,.int .i64 162,.int .i64 222,.int .i64 249,.int .i64 222,.int .i64 20,.int .i64 0,.int .i64 0,.int .i64 0,.int .i64 0,.int .i64 0,.int .i64 0,.int .i64 0,.int .i64 0,.int .i64 0,.int .i64 0,.int .i64 0,.int .i64 0,.int .i64 0,.int .i64 0,.int .i64 0,.int .i64 16]:Array Value)=(#[237,211,245,92,26,99,18,88,214,156,247,162,222,249,222,20,0,0,0,0,0,0,0,0,0,0,0,0,0,0,0,16]:Array Nat).map fun(z:Nat)=>Value.int .i64 (z:Int):=by simp
 rw [e,Array.getElem?_map,this]
 rfl
theorem b6c(k:Nat)(hk:k < 32)(w:World):Calls Tryz.prog 163 #[.int .i64 k] w fun e w'=>e= .returned (.int .i64 (dg LL k:Nat))∧Kept [] w w':=by
 have hc:∀W:World,(W.alloc (.cells #[Value.int .i64 237,.int .i64 211,.int .i64 245,.int .i64 92,.int .i64 26,.int .i64 99,.int .i64 18,.int .i64 88,.int .i64 214,.int .i64 156,.int .i64 247,.int .i64 162,.int .i64 222,.int .i64 249,.int .i64 222,.int .i64 20,.int .i64 0,.int .i64 0,.int .i64 0,.int .i64 0,.int .i64 0,.int .i64 0,.int .i64 0,.int .i64 0,.int .i64 0,.int .i64 0,.int .i64 0,.int .i64 0,.int .i64 0,.int .i64 0,.int .i64 0,.int .i64 16] 3)).cell? ⟨W.heap.size,k,none⟩=some (.int .i64 (dg LL k:Nat)):=fun W=>by
  rw [cell_of_row _ _ _ _ _ _ (heap_alloc_new W _)]
  exact ord_at k hk
 go_enter Tryz.func163,Tryz.ntmps163
 go_wp2_with fail
 go_ret
 exact⟨rfl,(Kept.refl [] w).alloc _⟩
theorem d8b{x i:Nat}(h:x / 256 ^ (i + 1)=LL / 256 ^ (i + 1))(hne:dg x i≠dg LL i):decide (x < LL)=decide (dg x i < dg LL i):=by
 have h1:=b1u x i
 have h2:=b1u LL i
 rw [h]at h1
 have hp:0 < 256 ^ i:=Nat.pow_pos (by decide)
 rw [decide_eq_decide]
 constructor
 ·intro hlt
  have:x / 256 ^ i≤LL / 256 ^ i:=Nat.div_le_div_right (Nat.le_of_lt hlt)
  omega
 ·intro hlt
  rcases Nat.lt_or_ge x LL with h3 | h3
  ·exact h3
  ·have:LL / 256 ^ i≤x / 256 ^ i:=Nat.div_le_div_right h3
   omega
theorem d5s{x i:Nat}(h:x / 256 ^ (i + 1)=LL / 256 ^ (i + 1))(he:dg x i=dg LL i):x / 256 ^ i=LL / 256 ^ i:=by
 rw [b1u x i,b1u LL i,h,he]
def b4h(x:Nat):Bool:=decide (x < LL)
theorem d0y{x:Nat}(h:dg x 32≠0):b4h x=false:=by
 unfold b4h
 refine decide_eq_false fun hlt=>h ?_
 unfold dg
 have:x / 256 ^ 32=0:=Nat.div_eq_of_lt (Nat.lt_trans hlt (by decide +kernel))
 rw [this]
theorem c3d{x:Nat}(hx:x < 256 ^ 33)(h:dg x 32=0):x / 256 ^ 32=LL / 256 ^ 32:=by
 have h1:x / 256 ^ 32 < 256:=by
  rw [Nat.div_lt_iff_lt_mul (Nat.pow_pos (by decide)),Nat.mul_comm,←Nat.pow_succ]
  exact hx
 unfold dg at h
 rw [Nat.mod_eq_of_lt h1]at h
 rw [h]
 decide +kernel
set_option maxHeartbeats 800000 in
theorem b5z(v:Value)(x:Nat)(w:World)(hr:Rd w 1 v 33 (iv (dgs x)))(hx:x < 256 ^ 33) :
 Calls Tryz.prog 111 #[v] w fun e w'=>e= .returned (.bool (b4h x))∧Kept [] w w':=by
 have hr2:=hjd hr
 obtain⟨b,o,c,rfl,hc,hcell⟩:=hr.at_ (by omega)
 have c32:=hcell 32 (.int .i64 (dg x 32:Nat)) (by simp [dgs])
 have hcell2:=hjd hcell
 have hx2:=hjd hx
 clear hr hcell hx
 by_cases h32:dg x 32=0
 ·have hst:=hjd (c3d hx2.out h32)
  rw [h32]at c32
  clear h32
  go_enter Tryz.func111,Tryz.ntmps111
  go_wp2_with fail
  go_loopg [3] 32 (fun f i wk=>∃m:Nat,f=m∧m≤32∧i= .int .i64 ((m:Int) - 1)∧x / 256 ^ m=LL / 256 ^ m∧Kept [] w wk)
  case atStart=>exact⟨32,rfl,Nat.le_refl _,rfl,hst.out,Kept.refl _ _⟩
  case round=>
   obtain⟨m,hf,hm,rfl,he,hk⟩:=hrel
   have he2:=hjd he
   have hk2:=hjd hk
   clear he hk
   by_cases hm0:0 < m
   ·have hi0:(0:Int)≤(m:Int) - 1:=by omega
    have hi1:(1:Int)≤(m:Int):=by omega
    have hS:=hjd (show Rd wr 1 (.slice (some ⟨b,o,none⟩) 33 c) 33 (iv (dgs x))from hr2.out.a1o hk2.out)
    have cm:∀u,Rd u 1 (.slice (some ⟨b,o,none⟩) 33 c) 33 (iv (dgs x))→u.cell? ⟨b,o + (m - 1),none⟩=some (.int .i64 (dg x (m - 1):Nat)):=fun u hu=>by
     obtain⟨b',o',c',he,_,hcc⟩:=hu.at_ (by omega)
     cases he
     exact hcc (m - 1) _ (by simp [dgs,show m - 1 < 33 from by omega])
    have cm2:=hjd cm
    have c1:=cm wr hS.out
    have ho:=hjd (b6c (m - 1) (by omega))
    have hcast:((m:Int) - 1)=((m - 1:Nat):Int):=by omega
    have hcast2:=hjd hcast
    clear cm hcast
    by_cases heq:dg x (m - 1)=dg LL (m - 1)
    ·have hn2:=hjd (show x / 256 ^ (m - 1)=LL / 256 ^ (m - 1)from d5s (by rw [show m - 1 + 1=m from by omega];exact he2.out) heq)
     rw [heq]at c1
     have heq2:=hjd heq
     clear heq
     go_wp2_with fail
     refine Txt.b3k [3] (fun u=>Rd u 1 (.slice (some ⟨b,o,none⟩) 33 c) 33 (iv (dgs x))) [[_,_,_,_,_,_],[_]] (by kernel_rfl) (by kernel_rfl) rfl hS.out.drew (Txt.a0h ?_)
     go_wp2_with fail
     rw [hcast2.out]
     refine(ho.out _).mono ?_
     rintro e w2 ⟨rfl,k2⟩
     have hS3:=hjd (show Rd w2 1 (.slice (some ⟨b,o,none⟩) 33 c) 33 (iv (dgs x))from hS.out.a1o k2.a1v)
     have k3:=hjd (hk2.out.a0i k2.a1v)
     clear k2
     go_wp2_with fail
     refine⟨rfl,hS3.out,Txt.a0h ?_⟩
     go_wp2_with fail
     refine⟨rfl,hS3.out,Txt.a1l ⟨⟨by kernel_rfl,?_⟩,?_⟩⟩
     ·intro j hj oo ho' _
      obtain rfl:j=3:=by simpa using hj
      cases ho'
      exact⟨15,rfl,fun u hu=>by
       have:=cm2.out u hu
       simp [execOp,Act.eval,Instr.loadAt,Instr.sureAddr,loadVar,isAgg,run_underlying Tryz.underlying3,this,heq2.out]⟩
     go_wp2_with fail
     go_roundg (m - 1)
     case measure=>omega
     case rel=>exact⟨m - 1,rfl,by omega,rfl,hn2.out,k3.out⟩
    ·have hbl:=d8b (x:=x) (i:=m - 1) (by rw [show m - 1 + 1=m from by omega];exact he2.out) heq
     have hne1:(((dg x (m - 1):Nat):Int) == ((dg LL (m - 1):Nat):Int))=false:=by
      rw [beq_eq_false_iff_ne];omega
     have hne2:¬((dg x (m - 1):Nat):Int)=((dg LL (m - 1):Nat):Int):=by omega
     have hbl2:=hjd hbl
     clear hbl
     go_wp2_with fail
     refine Txt.b3k [3] (fun u=>Rd u 1 (.slice (some ⟨b,o,none⟩) 33 c) 33 (iv (dgs x))) [[_,_,_,_,_,_],[_]] (by kernel_rfl) (by kernel_rfl) rfl hS.out.drew (Txt.a0h ?_)
     go_wp2_with fail
     rw [hcast2.out]
     refine(ho.out _).mono ?_
     rintro e w2 ⟨rfl,k2⟩
     have hS3:=hjd (show Rd w2 1 (.slice (some ⟨b,o,none⟩) 33 c) 33 (iv (dgs x))from hS.out.a1o k2.a1v)
     have k3:=hjd (hk2.out.a0i k2.a1v)
     clear k2
     go_wp2_with fail
     refine⟨rfl,hS3.out,Txt.a0h ?_⟩
     go_wp2_with fail
     refine⟨rfl,hS3.out,Txt.a1l ⟨⟨by kernel_rfl,?_⟩,?_⟩⟩
     ·intro j hj oo ho' _
      obtain rfl:j=3:=by simpa using hj
      cases ho'
      exact⟨15,rfl,fun u hu=>by
       have:=cm2.out u hu
       simp [execOp,Act.eval,Instr.loadAt,Instr.sureAddr,loadVar,isAgg,run_underlying Tryz.underlying3,this]⟩
     have c2:=cm2.out w2 hS3.out
     go_wp2_with fail
     refine Txt.b3k [3] (fun u=>Rd u 1 (.slice (some ⟨b,o,none⟩) 33 c) 33 (iv (dgs x))) [[_,_,_,_,_,_],[_,_]] (by kernel_rfl) (by kernel_rfl) rfl hS3.out.drew (Txt.a0h ?_)
     go_wp2_with fail
     refine(ho.out _).mono ?_
     rintro e w3 ⟨rfl,k4⟩
     have hS4:=hjd (show Rd w3 1 (.slice (some ⟨b,o,none⟩) 33 c) 33 (iv (dgs x))from hS3.out.a1o k4.a1v)
     have k5:=hjd (k3.out.a0i k4.a1v)
     clear k4
     go_wp2_with fail
     refine⟨rfl,hS4.out,Txt.a0h ?_⟩
     go_wp2_with fail
     refine⟨rfl,hS4.out,Txt.a1l ⟨⟨by kernel_rfl,?_⟩,?_⟩⟩
     ·intro j hj oo ho' _
      obtain rfl:j=3:=by simpa using hj
      cases ho'
      exact⟨22,rfl,fun u hu=>by
       have:=cm2.out u hu
       simp [execOp,Act.eval,Instr.loadAt,Instr.sureAddr,loadVar,isAgg,run_underlying Tryz.underlying3,this]⟩
     go_wp2_with fail
     go_ret
     refine⟨?_,k5.out⟩
     unfold b4h
     rw [hbl2.out]
     rfl
   ·obtain rfl:m=0:=by omega
    have hf0:=hjd (show b4h x=false from by
     have:=he2.out
     simp at this
     rw [this]
     exact decide_eq_false (Nat.lt_irrefl _))
    go_wp2_with fail
    go_ret
    exact⟨by rw [hf0.out];rfl,hk2.out⟩
 ·have hf0:=hjd (d0y h32)
  have hne2:¬((dg x 32:Nat):Int)=0:=by omega
  clear h32
  go_enter Tryz.func111,Tryz.ntmps111
  go_wp2_with fail
  go_ret
  exact⟨by rw [hf0.out];rfl,Kept.refl _ _⟩
end Go.Proofs.YtdbngnlpafcogaaGreat.Z
namespace Go.Proofs.YtdbngnlpafcogaaGreat.Z
def bw(x k:Nat):Nat:=if x % 256 ^ k < LL % 256 ^ k then 1 else 0
theorem d8x(x k:Nat):bw x k≤1:=by unfold bw;split <;> omega
theorem e2m(x:Nat):bw x 0=0:=by simp [bw,Nat.mod_one]
theorem b3x(x k:Nat):x % 256 ^ (k + 1)=x % 256 ^ k + 256 ^ k * dg x k:=by
 rw [Nat.pow_succ,Nat.mod_mul];rfl
theorem c2f(x k:Nat)(hx:LL≤x):((dg x k:Int) - bw x k - dg LL k < 0↔bw x (k + 1)=1)∧(dg (x - LL) k:Int)=(if (dg x k:Int) - bw x k - dg LL k < 0 then(dg x k:Int) - bw x k - dg LL k + 256 else(dg x k:Int) - bw x k - dg LL k):=by
 have hp:0 < 256 ^ k:=Nat.pow_pos (by decide)
 have m1:=b3x x k
 have m2:=b3x LL k
 have l1:x % 256 ^ k < 256 ^ k:=Nat.mod_lt _ hp
 have l2:LL % 256 ^ k < 256 ^ k:=Nat.mod_lt _ hp
 have d1:=a7p x k
 have d2:=a7p LL k
 have e1:x=256 ^ k * (x / 256 ^ k) + x % 256 ^ k:=(Nat.div_add_mod x (256 ^ k)).symm
 have e2:LL=256 ^ k * (LL / 256 ^ k) + LL % 256 ^ k:=(Nat.div_add_mod LL (256 ^ k)).symm
 have s1:=b1u x k
 have s2:=b1u LL k
 have hb:bw x (k + 1)=if x % 256 ^ k + 256 ^ k * dg x k < LL % 256 ^ k + 256 ^ k * dg LL k then 1 else 0:=by unfold bw;rw [m1,m2]
 have hbk:bw x k=if x % 256 ^ k < LL % 256 ^ k then 1 else 0:=rfl
 have hle:LL / 256 ^ k≤x / 256 ^ k:=Nat.div_le_div_right hx
 have key:(x - LL) / 256 ^ k=x / 256 ^ k - LL / 256 ^ k - bw x k∧bw x k≤x / 256 ^ k - LL / 256 ^ k:=by
  generalize x / 256 ^ k=X1 at *
  generalize LL / 256 ^ k=L1 at *
  generalize x % 256 ^ k=r at *
  generalize LL % 256 ^ k=s at *
  generalize bw x k=β at *
  generalize 256 ^ k=P at *
  by_cases hrs:r < s
  ·rw [if_pos hrs]at hbk
   subst hbk
   have hlt:L1 < X1:=by
    rcases Nat.lt_or_ge L1 X1 with h | h
    ·exact h
    ·exfalso
     have:P * X1≤P * L1:=Nat.mul_le_mul_left _ h
     omega
   refine⟨?_,by omega⟩
   obtain⟨D,rfl⟩:∃D,X1=L1 + 1 + D:=⟨X1 - L1 - 1,by omega⟩
   have h1:P * (L1 + 1 + D)=P * L1 + P + P * D:=by rw [Nat.mul_add,Nat.mul_add,Nat.mul_one]
   have h2:x - LL=P * D + (P + r - s):=by omega
   rw [h2,Nat.mul_add_div hp,Nat.div_eq_of_lt (by omega)]
   omega
  ·rw [if_neg hrs]at hbk
   subst hbk
   refine⟨?_,by omega⟩
   obtain⟨D,rfl⟩:∃D,X1=L1 + D:=⟨X1 - L1,by omega⟩
   have h1:P * (L1 + D)=P * L1 + P * D:=by rw [Nat.mul_add]
   have h2:x - LL=P * D + (r - s):=by omega
   rw [h2,Nat.mul_add_div hp,Nat.div_eq_of_lt (by omega)]
   omega
 have hd:dg (x - LL) k=(x - LL) / 256 ^ k % 256:=rfl
 rw [hd,key.1]
 have kl:=key.2
 rw [s1,s2]at kl hle ⊢
 clear key hd s1 s2 e1 e2 m1 m2
 have hbl:=d8x x k
 rw [hb]
 clear hb
 generalize x / 256 ^ (k + 1)=A at *
 generalize LL / 256 ^ (k + 1)=B at *
 generalize x % 256 ^ k=r at *
 generalize LL % 256 ^ k=s at *
 generalize bw x k=β at *
 generalize dg x k=a at *
 generalize dg LL k=b at *
 generalize 256 ^ k=P at *
 have hcmp:r + P * a < s + P * b↔(a:Int) - β - b < 0:=by
  rcases Nat.lt_trichotomy a b with h | h | h
  ·have:P * (a + 1)≤P * b:=Nat.mul_le_mul_left _ h
   rw [Nat.mul_add,Nat.mul_one]at this
   constructor <;> intro <;> omega
  ·subst h
   split at hbk <;> constructor <;> intro <;> omega
  ·have:P * (b + 1)≤P * a:=Nat.mul_le_mul_left _ h
   rw [Nat.mul_add,Nat.mul_one]at this
   constructor <;> intro hh
   ·omega
   ·split at hbk <;> omega
 constructor
 ·rw [←hcmp]
  split <;> simp_all
 ·split <;> omega
end Go.Proofs.YtdbngnlpafcogaaGreat.Z
namespace Go.Proofs.YtdbngnlpafcogaaGreat.Z
open Go.RowKit Go.Mem
theorem intT:SliceT Tryz.prog 53 3 1 8 (.int .i64 0):=⟨Tryz.underlying53,by kernel_rfl,rfl,by omega⟩
def stv(x k j:Nat):Int:=if j < k then(dg (x - LL) j:Int)else if j=k then(dg x k:Int) - bw x k else(dg x j:Int)
def st(x k:Nat):List Int:=(List.range 33).map (stv x k)
theorem a7s(x k:Nat):(st x k).length=33:=by simp [st]
theorem b0x(x k j:Nat)(h:j < 33):(st x k)[j]?=some (stv x k j):=by simp [st,h]
theorem e5w(x:Nat):st x 0=dgs x:=by
 unfold st dgs
 apply List.map_congr_left
 intro i _
 unfold stv
 rw [if_neg (by omega),e2m]
 split
 ·subst_vars;simp
 ·rfl
theorem st_end(x:Nat):st x 33=dgs (x - LL):=by
 unfold st dgs
 apply List.map_congr_left
 intro i hi
 unfold stv
 rw [if_pos (by simpa using hi)]
theorem e4x{l:List Int}{j:Nat}{z:Int}:(iv l).set j (.int .i64 z)=iv (l.set j z):=by simp [iv]
def d1(x k:Nat):Int:=(dg x k:Int) - bw x k - dg LL k
theorem st_neg(x k:Nat)(hx:LL≤x)(hk:k < 32)(h:d1 x k < 0):(((st x k).set k (d1 x k)).set k (d1 x k + 256)).set (k + 1) ((dg x (k + 1):Int) - 1)=st x (k + 1):=by
 obtain⟨h1,h2⟩:=c2f x k hx
 have hb:=h1.1 h
 unfold d1 at h
 rw [if_pos h]at h2
 apply List.ext_getElem?
 intro i
 rw [List.set_set,List.getElem?_set,List.getElem?_set]
 simp only [List.length_set,a7s]
 rcases Nat.lt_or_ge i 33 with hi | hi
 ·rw [b0x x k i hi,b0x x (k + 1) i hi]
  unfold stv
  by_cases e1:k + 1=i
  ·subst e1
   rw [if_pos rfl,if_pos hi,if_neg (by omega),if_pos rfl,hb];simp
  ·rw [if_neg e1]
   by_cases e2:k=i
   ·subst e2
    rw [if_pos rfl,if_pos hi,if_pos (by omega),h2];unfold d1;rfl
   ·rw [if_neg e2]
    by_cases e3:i < k
    ·rw [if_pos e3,if_pos (by omega)]
    ·rw [if_neg e3,if_neg (by omega),if_neg (by omega),if_neg (by omega)]
 ·rw [if_neg (by omega),if_neg (by omega),List.getElem?_eq_none (by rw [a7s];exact hi),List.getElem?_eq_none (by rw [a7s];exact hi)]
theorem e0k(x k:Nat)(hx:LL≤x)(hk:k < 33)(h:¬d1 x k < 0):(st x k).set k (d1 x k)=st x (k + 1):=by
 obtain⟨h1,h2⟩:=c2f x k hx
 have hb:bw x (k + 1)=0:=by
  have:=d8x x (k + 1)
  have h3:¬bw x (k + 1)=1:=fun e=>h (h1.2 e)
  omega
 unfold d1 at h
 rw [if_neg h]at h2
 apply List.ext_getElem?
 intro i
 rw [List.getElem?_set]
 simp only [a7s]
 rcases Nat.lt_or_ge i 33 with hi | hi
 ·rw [b0x x k i hi,b0x x (k + 1) i hi]
  unfold stv
  by_cases e2:k=i
  ·subst e2
   rw [if_pos rfl,if_pos hi,if_pos (by omega),h2];rfl
  ·rw [if_neg e2]
   by_cases e3:i < k
   ·rw [if_pos e3,if_pos (by omega)]
   ·rw [if_neg e3,if_neg (by omega),if_neg (by omega)]
    by_cases e4:i=k + 1
    ·subst e4;rw [if_pos rfl,hb];simp
    ·rw [if_neg e4]
 ·rw [if_neg (by omega),List.getElem?_eq_none (by rw [a7s];exact hi),List.getElem?_eq_none (by rw [a7s];exact hi)]
theorem last_pos(x:Nat)(hx:LL≤x)(hl:x < 256 ^ 33):¬d1 x 32 < 0:=by
 intro h
 have h2:=(c2f x 32 hx).1.1 h
 unfold bw at h2
 rw [Nat.mod_eq_of_lt hl,Nat.mod_eq_of_lt (by decide +kernel),if_neg (by omega)]at h2
 cases h2
theorem d1_bd(x k:Nat): -256≤d1 x k∧d1 x k≤255:=by
 have:=a7p x k;have:=a7p LL k;have:=d8x x k
 unfold d1;omega
theorem LL_32:dg LL 32=0:=by decide +kernel
structure Row (w:World) (g o c:Nat) (l:List Int):Prop where
 ow:Ow w 3 1 (.slice (some ⟨g,o,none⟩) 33 c) 33 (iv l)
theorem Row.cell{w:World}{g o c:Nat}{l:List Int}(h:Row w g o c l)(j:Nat)(z:Int)(hz:l[j]?=some z):w.cell? ⟨g,o + j,none⟩=some (.int .i64 z):=by
 obtain⟨g',o',c',he,_,hc,_⟩:=h.ow.at_ (by omega)
 cases he
 exact hc j _ (by simp [hz])
theorem Row.frozen{w:World}{g o c:Nat}{l:List Int}(h:Row w g o c l)(j:Nat):w.frozen? ⟨g,j,none⟩=false:=by
 obtain⟨g',o',c',he,_,_,hf,_⟩:=h.ow.at_ (by omega)
 cases he
 exact hf j
theorem Row.a6m{w:World}{g o c:Nat}{l:List Int}(h:Row w g o c l)(j:Nat)(z:Int)(hj:j < 33):Row (w.setCell ⟨g,o + j,none⟩ (.int .i64 z)) g o c (l.set j z):=by
 have hl:(iv l).length=33:=by have:=h.ow.1;omega
 obtain⟨g',o',c',he,_,_,_,hs⟩:=h.ow.at_ (by omega)
 cases he
 have:=hs j (.int .i64 z) (by omega)
 rw [e4x]at this
 exact⟨this⟩
theorem Row.kept{w w':World}{g o c:Nat}{l:List Int}(h:Row w g o c l)(hk:Kept [] w w'):Row w' g o c l:=⟨h.ow.a1o hk⟩
set_option maxHeartbeats 1600000 in
theorem d2r(v:Value)(x:Nat)(w:World)(hr:Rd w 1 v 33 (iv (dgs x)))(hx:LL≤x)(hl:x < 256 ^ 33) :
 Calls Tryz.prog 112 #[v] w fun e w'=>∃g o c,e= .returned (.slice (some ⟨g,o,none⟩) 33 c)∧Row w' g o c (dgs (x - LL))∧Kept [] w w'∧w.heap.size≤g:=by
 have hr2:=hjd hr
 obtain⟨b,o,c,rfl,hc,_⟩:=hr.at_ (by omega)
 have hx2:=hjd (And.intro hx hl)
 clear hr hx hl
 go_enter Tryz.func112,Tryz.ntmps112
 go_wp2_with (at_builtin;refine a5a intT rfl (.tmp 5) (.tmp 6) rfl rfl (xs:=[]) (n:=0) (Ow.b8x (a5x (by simp) rfl rfl (by omega))) rfl (hr2.out.alloc _) (c9z _) ?_ ?_ ?_)
 case refine_1=>omega
 case refine_2=>omega
 intro v' w1 hown hk hb
 have hk0:Kept [] w w1:=Kept.fresh ((Kept.refl [] w).alloc _) hk (by simp [Value.ownBlock])
 obtain⟨g,o',c',rfl,_,_,_,_⟩:=hown.at_ (by omega)
 have hge:w.heap.size≤g:=by
  rcases hb with hb | hb
  ·simp [Value.ownBlock]at hb;omega
  ·simp [Value.ownBlock]at hb;omega
 have R:=hjd (show Row w1 g o' c' (st x 0)from⟨by rw [e5w];exact hown⟩)
 have K:=hjd (And.intro hk0 hge)
 clear hown hk hb hk0 hge
 go_wp2_with fail
 go_loopg [4] 33 (fun f i wk=>∃k:Nat,k≤33∧f + k=33∧i= .int .i64 k∧Row wk g o' c' (st x k)∧Kept [g] w1 wk)
 case atStart=>exact⟨0,by omega,rfl,rfl,R.out,Kept.refl _ _⟩
 case round=>
  obtain⟨k,hk,hf,rfl,hb,hkw⟩:=hrel
  have H:=hjd hb
  have HK:=hjd hkw
  have hbd:=d1_bd x k
  clear hb hkw
  by_cases h33:k < 33
  ·by_cases h32:k < 32
   ·have c1:=H.out.cell k (stv x k k) (b0x x k k h33)
    have hsv:stv x k k=(dg x k:Int) - bw x k:=by unfold stv;rw [if_neg (by omega),if_pos rfl]
    rw [hsv]at c1
    have hd0:(dg x k:Int) - bw x k - dg LL k=d1 x k:=rfl
    have hwr:=IntWalk.i64_in (d1 x k) (by omega)
    have ho:=hjd (b6c k h32)
    have hf1:=H.out.frozen (o' + k)
    have b1:=a7p x k
    have b2:=d8x x k
    have b3:=a7p LL k
    have hcm:=hjd (fun(u:World) (hu:Row u g o' c' (st x k))=>by have:=hu.cell k (stv x k k) (b0x x k k h33);rwa [hsv]at this)
    go_wp2_with fail
    go_region_with (go_at_call 163;refine(ho.out _).mono ?_;rintro e w2 ⟨rfl,k2⟩;have H2:=hjd (H.out.kept k2.a1v);have HK2:=hjd (HK.out.a0i k2.a1v);have c2:=hcm.out w2 H2.out;have hf2:=H2.out.frozen (o' + k);clear k2)
    all_goals
     have H3:=hjd (H2.out.a6m k (d1 x k) h33)
     have HK3:=hjd (HK2.out.setCell (p:=⟨g,o' + k,none⟩) (.inl (by simp)) (Value.int .i64 (d1 x k)))
     generalize hW:w2.setCell ⟨g,o' + k,none⟩ (.int .i64 (d1 x k))=w3 at *
     clear hW c1 c2 hf1 hf2
     by_cases hneg:d1 x k < 0
     ·have c4:=H3.out.cell k (d1 x k) (by rw [List.getElem?_set];simp [a7s,h33])
      have hf4:=H3.out.frozen (o' + k)
      have H4:=hjd (H3.out.a6m k (d1 x k + 256) h33)
      have c5:=H4.out.cell (k + 1) (dg x (k + 1):Nat) (by
       rw [List.getElem?_set,if_neg (by omega),List.getElem?_set,if_neg (by omega),b0x x k (k + 1) (by omega)]
       unfold stv
       rw [if_neg (by omega),if_neg (by omega)])
      have hf5:=H4.out.frozen (o' + (k + 1))
      have b5:=a7p x (k + 1)
      have H5:=H4.out.a6m (k + 1) ((dg x (k + 1):Int) - 1) (by omega)
      rw [st_neg x k hx2.out.1 h32 hneg]at H5
      have H6:=hjd H5
      have HK6:=hjd ((HK3.out.setCell (p:=⟨g,o' + k,none⟩) (.inl (by simp)) (Value.int .i64 (d1 x k + 256))).setCell (p:=⟨g,o' + (k + 1),none⟩) (.inl (by simp)) (Value.int .i64 ((dg x (k + 1):Int) - 1)))
      clear H5
      go_wp2_with fail
      go_roundg (33 - (k + 1))
      case measure=>omega
      case rel=>exact⟨k + 1,by omega,by omega,by go_num,H6.out,HK6.out⟩
     ·have c4:=H3.out.cell k (d1 x k) (by rw [List.getElem?_set];simp [a7s,h33])
      have H5:=H3.out
      rw [e0k x k hx2.out.1 h33 hneg]at H5
      have H6:=hjd H5
      clear H5
      go_wp2_with fail
      go_roundg (33 - (k + 1))
      case measure=>omega
      case rel=>exact⟨k + 1,by omega,by omega,by go_num,H6.out,HK3.out⟩
   ·obtain rfl:k=32:=by omega
    have hneg:=last_pos x hx2.out.1 hx2.out.2
    have hsv:stv x 32 32=d1 x 32:=by
     unfold stv d1
     rw [if_neg (by omega),if_pos rfl,LL_32];simp
    have c1:=H.out.cell 32 (stv x 32 32) (b0x x 32 32 (by omega))
    rw [hsv]at c1
    have hS:=e0k x 32 hx2.out.1 (by omega) hneg
    have hS2:(st x 32).set 32 (d1 x 32)=st x 32:=by
     apply List.ext_getElem?
     intro i
     rw [List.getElem?_set]
     simp only [a7s]
     split
     ·subst_vars;simp [b0x x 32 32 (by omega),hsv]
     ·rfl
    rw [hS2]at hS
    have H6:=hjd (show Row wr g o' c' (st x 33)from hS▸H.out)
    clear hS hS2 hsv
    go_wp2_with fail
    go_roundg (33 - (32 + 1))
    case measure=>omega
    case rel=>exact⟨33,by omega,by omega,by go_num,H6.out,HK.out⟩
  ·obtain rfl:k=33:=by omega
   rw [st_end]at H
   go_wp2_with fail
   go_ret
   exact⟨g,o',c',rfl,H.out,K.out.1.a0n HK.out K.out.2,K.out.2⟩
end Go.Proofs.YtdbngnlpafcogaaGreat.Z
namespace Go.Proofs.YtdbngnlpafcogaaGreat.Z
open Go.RowKit Go.Mem
def dq(x c k:Nat):Nat:=(2 * (x % 256 ^ k) + c) / 256 ^ k
theorem e5y(x c:Nat):dq x c 0=c:=by simp [dq,Nat.mod_one]
theorem e6d(x c k:Nat)(hc:c≤1):dq x c k≤1∧(2 * dg x k + dq x c k) % 256=dg (2 * x + c) k∧(2 * dg x k + dq x c k) / 256=dq x c (k + 1):=by
 have hp:0 < 256 ^ k:=Nat.pow_pos (by decide)
 have m1:=b3x x k
 have l1:x % 256 ^ k < 256 ^ k:=Nat.mod_lt _ hp
 have e1:x=256 ^ k * (x / 256 ^ k) + x % 256 ^ k:=(Nat.div_add_mod x (256 ^ k)).symm
 have hd:dg x k=x / 256 ^ k % 256:=rfl
 have hy:dg (2 * x + c) k=(2 * x + c) / 256 ^ k % 256:=rfl
 have h1:(2 * x + c) / 256 ^ k=2 * (x / 256 ^ k) + dq x c k:=by
  have:2 * x + c=256 ^ k * (2 * (x / 256 ^ k)) + (2 * (x % 256 ^ k) + c):=by
   rw [Nat.mul_left_comm];omega
  rw [this,Nat.mul_add_div hp];rfl
 have h2:dq x c (k + 1)=(2 * dg x k + dq x c k) / 256:=by
  show(2 * (x % 256 ^ (k + 1)) + c) / 256 ^ (k + 1)=_
  rw [m1,Nat.pow_succ,←Nat.div_div_eq_div_mul]
  congr 1
  have:2 * (x % 256 ^ k + 256 ^ k * dg x k) + c=256 ^ k * (2 * dg x k) + (2 * (x % 256 ^ k) + c):=by
   rw [Nat.mul_add,Nat.mul_left_comm];omega
  rw [this,Nat.mul_add_div hp];rfl
 have h3:dq x c k≤1:=by
  have:dq x c k < 2:=by
   unfold dq
   rw [Nat.div_lt_iff_lt_mul hp];omega
  omega
 refine⟨h3,?_,h2.symm⟩
 rw [hy,h1,hd]
 omega
def d4b(x y k:Nat):List Int:=a5u (dgs x) 0 ((dgs y).take k)
theorem dmix0(x y:Nat):d4b x y 0=dgs x:=by unfold d4b;rw [d6u];simp
theorem dmix33(x y:Nat):d4b x y 33=dgs y:=by
 unfold d4b
 rw [List.take_of_length_le (by rw [a6z];exact Nat.le_refl _),a7b _ _ (by rw [a6z,a6z])]
theorem d6v(x y k:Nat)(hk:k < 33):(d4b x y k)[k]?=some (dg x k:Int):=by
 unfold d4b
 rw [b7u _ _ (by simp [a6z];omega)]
 rw [if_neg (by simp;omega)]
 simp [dgs,hk]
theorem d5m(x y k:Nat)(hk:k < 33):(d4b x y k).set k (dg y k:Int)=d4b x y (k + 1):=by
 have:=b3q (dgs x) (dgs y) k (by rw [a6z];exact hk) (by rw [a6z,a6z];exact Nat.le_refl _)
 rw [e2n y k hk]at this
 exact this
theorem d4k(bs:List UInt8)(i t:Nat)(h:i < bs.length)(ht:t < 8):bs[i].toNat / 2 ^ t % 2=leV bs / 2 ^ (8 * i + t) % 2:=by
 have h1:bs[i].toNat=leV bs / 2 ^ (8 * i) % 256:=by
  have e:=b2d bs
  have h2:bs[i]=(le (leV bs) bs.length)[i]'(by rw [a0o];exact h):=by simp only [e]
  rw [h2,a8c _ _ _ h,UInt8.toNat_ofNat']
  omega
 rw [h1,Nat.pow_add,←Nat.div_div_eq_div_mul]
 generalize leV bs / 2 ^ (8 * i)=U
 have e:256=2 ^ t * 2 ^ (8 - t):=by rw [←Nat.pow_add,show t + (8 - t)=8 from by omega]
 rw [e,Nat.mod_mul_right_div_self,show 8 - t=1 + (7 - t)from by omega,Nat.pow_add,Nat.pow_one,Nat.mod_mul_right_mod]
theorem b0u(q:Nat)(h:0 < q):2 ^ q / 2=2 ^ (q - 1):=by
 obtain⟨m,rfl⟩:∃m,q=m + 1:=⟨q - 1,by omega⟩
 rw [Nat.pow_succ,Nat.mul_div_cancel _ (by decide)];rfl
theorem le_dg(x i:Nat)(h:i < 32):(((le x 32)[i]'(by rw [a0o];exact h)).toNat:Int)=(dg x i:Int):=by
 rw [a8c x 32 i h,UInt8.toNat_ofNat']
 unfold dg
 rw [show(256:Nat) ^ i=2 ^ (8 * i)from by rw [Nat.pow_mul]]
 omega
theorem lt33{x:Nat}(h:x < 2 * LL):x < 256 ^ 33:=Nat.lt_trans h (by decide +kernel)
theorem e3f{x:Nat}(h:x < 2 * LL)(hg:LL≤x):x - LL=x % LL:=by
 rw [Nat.mod_eq_sub_mod hg,Nat.mod_eq_of_lt (by omega)]
theorem nil33:madeCells #[.int .i64 0] 33=(iv (dgs 0)).toArray:=by kernel_rfl
theorem mk33:∃Z:Array Value,Z=(iv (dgs 0)).toArray∧∀W:World,(Instr.makeSlice 53 (.int .i64 33) (.int .i64 33)).run Tryz.prog W= .ok (.slice (some ⟨W.heap.size,0,none⟩) 33 33) (W.alloc (.cells Z 3)):=
 ⟨_,nil33,fun W=>run_mk intT 33 (by omega) (by omega) W⟩
theorem Row.lt{w:World}{g o c:Nat}{l:List Int}(h:Row w g o c l):g < w.heap.size:=h.ow.lt rfl
theorem Row.c3s{w w':World}{g o c k:Nat}{l:List Int}(h:Row w g o c l)(hk:Kept [k] w w')(hn:g≠k):Row w' g o c l:=⟨h.ow.kept hk (fun x hx hm=>by
 have h1:g=x:=by simpa [Value.ownBlock]using hx
 have h2:x=k:=by simpa using hm
 exact hn (h1.trans h2))⟩
structure Acc (w0 w:World) (v:Value) (l:List Int):Prop where
 ex:∃g o c,v= .slice (some ⟨g,o,none⟩) 33 c∧Row w g o c l∧w0.heap.size≤g
 k:Kept [] w0 w
set_option maxHeartbeats 3200000 in
theorem b6p(v:Value)(bs:List UInt8)(w:World)(hr:Rd w 1 v bs.length (bv bs))(hl:bs.length≤1000) :
 Calls Tryz.prog 44 #[v] w fun e w'=>e= .returned (ab (le (leV bs % LL) 32))∧Kept [] w w':=by
 have hr2:=hjd hr
 obtain⟨A,c,rfl,_,_,_⟩:=hr
 obtain⟨Z,hZ,hmk⟩:=mk33
 have hZ2:=hjd hZ
 clear hZ
 go_enter Tryz.func44,Tryz.ntmps44
 go_wp2_with ((with_reducible refine a0f (o:=⟨some 2,_,_,_,_,_⟩) rfl rfl a3h ?_);intro g2 w2 m2)
 have hA0:Acc w2 (w2.alloc (.cells Z 3)) (.slice (some ⟨w2.heap.size,0,none⟩) 33 33) (dgs (leV bs / 2 ^ (8 * bs.length) % LL)):=by
  rw [Nat.div_eq_of_lt (a6f bs)]
  exact⟨⟨_,_,_,rfl,⟨Ow.b8x (a5x (xs:=iv (dgs 0)) rfl (by rw [hZ2.out]) (by simp [a6z]) (by omega))⟩,Nat.le_refl _⟩,(Kept.refl [] w2).alloc _⟩
 have A0:=hjd hA0
 have M:=hjd m2
 have far:=hjd (show∀W,Kept [] w2 W→Rd W 1 (.slice A bs.length c) bs.length (bv bs)from fun W hW=>(hr2.out.a1o m2.kept).a1o hW)
 clear hA0 m2
 go_loopg [4,3] bs.length (fun f i rv wk=>∃m:Nat,f=m∧m≤bs.length∧i= .int .i64 ((m:Int) - 1)∧Acc w2 wk rv (dgs (leV bs / 2 ^ (8 * m) % LL)))
 case atStart=>exact⟨bs.length,rfl,Nat.le_refl _,rfl,A0.out⟩
 case round=>
  obtain⟨m,hf,hm,rfl,⟨g,o,cc,rfl,hrow,hge⟩,hkw⟩:=hrel
  have R:=hjd hrow
  have HK:=hjd (And.intro hkw hge)
  clear hrow hkw hge
  by_cases hm0:0 < m
  ·have hi0:(0:Int)≤(m:Int) - 1:=by omega
   have hi1:(1:Int)≤(m:Int):=by omega
   go_wp2_with fail
   obtain⟨wo,rfl⟩:∃wo:World,wo=wr:=⟨_,rfl⟩
   go_loopg [5,3] 8 (fun f bt rv wk=>∃q B:Nat,f=q∧q≤8∧bt= .int .i64 (B:Int)∧B=2 ^ q / 2∧Acc w2 wk rv (dgs (leV bs / 2 ^ (8 * (m - 1) + q) % LL)))
   case atStart=>exact⟨8,128,rfl,Nat.le_refl _,rfl,rfl,⟨_,_,_,rfl,by rw [show 8 * (m - 1) + 8=8 * m from by omega];exact R.out,HK.out.2⟩,HK.out.1⟩
   case round=>
    obtain⟨q,B,hf2,hq,rfl,hB,⟨g',o',cc',rfl,hrow,hge⟩,hkw⟩:=hrel
    have R2:=hjd hrow
    have HK2:=hjd (And.intro hkw hge)
    have hB2:=hjd hB
    clear hrow hkw hge
    by_cases hq0:0 < q
    ·have hB1:1≤B:=by rw [hB,b0u q hq0];exact Nat.one_le_two_pow
     have hB8:B≤128:=by
      rw [hB,b0u q hq0]
      exact Nat.le_trans (Nat.pow_le_pow_right (by decide) (show q - 1≤7 from by omega)) (by decide)
     obtain⟨cb,hcb⟩:∃cb,cb=leV bs / 2 ^ (8 * (m - 1) + (q - 1)) % 2:=⟨_,rfl⟩
     obtain⟨X,hX⟩:∃X,X=leV bs / 2 ^ (8 * (m - 1) + q) % LL:=⟨_,rfl⟩
     rw [←hX]at R2
     have hXL:X < LL:=by rw [hX];exact Nat.mod_lt _ c0b
     have hc1:cb≤1:=by omega
     have hbit:(wrap64 (((bs[m - 1].toNat:Nat):Int) / (B:Int))).tmod 2=(cb:Int):=by
      obtain⟨Q,hQ⟩:∃Q,Q=bs[m - 1].toNat / B:=⟨_,rfl⟩
      have h1:((bs[m - 1].toNat:Nat):Int) / (B:Int)=(Q:Int):=by rw [hQ];rfl
      have h2:Q≤bs[m - 1].toNat:=by rw [hQ];exact Nat.div_le_self _ _
      have h3:=UInt8.toNat_lt bs[m - 1]
      have e:cb=Q % 2:=by rw [hcb,←d4k bs (m - 1) (q - 1) (by omega) (by omega),←b0u q hq0,←hB,hQ]
      rw [h1,IntWalk.wrap64_in _ ⟨by omega,by omega⟩,Int.tmod_eq_emod_of_nonneg (by omega),e]
      rfl
     have hnext:(2 * X + cb) % LL=leV bs / 2 ^ (8 * (m - 1) + (q - 1)) % LL:=by
      rw [hX,hcb]
      have:=c0r (leV bs) (8 * (m - 1) + (q - 1))
      rwa [show 8 * (m - 1) + (q - 1) + 1=8 * (m - 1) + q from by omega]at this
     obtain⟨xb,xo,xc,hxe,_,hcell⟩:=(far.out _ HK2.out.1).at_ (by omega)
     cases hxe
     have c0:=hcell (m - 1) (a1q bs[m - 1]) (by simp [show m - 1 < bs.length from by omega])
     unfold a1q at c0
     have F:=hjd (And.intro hXL hnext)
     have bb:=UInt8.toNat_lt bs[m - 1]
     clear hB hcb hX hXL hnext hcell
     go_wp2_with fail
     obtain⟨wp,rfl⟩:∃wp:World,wp=wr:=⟨_,rfl⟩
     have R3:=hjd (show Row wp g' o' cc' (d4b X (2 * X + cb) 0) by rw [dmix0];exact R2.out)
     go_loopg [7,6] 33 (fun f i cv wk=>∃k:Nat,k≤33∧f + k=33∧i= .int .i64 k∧cv= .int .i64 (dq X cb k:Nat)∧Row wk g' o' cc' (d4b X (2 * X + cb) k)∧Kept [g'] wp wk)
     case atStart=>exact⟨0,by omega,rfl,rfl,by rw [e5y],R3.out,Kept.refl _ _⟩
     case round=>
      obtain⟨k,hk,hf3,rfl,rfl,hrk,hkk⟩:=hrel
      by_cases hlt:k < 33
      ·obtain⟨d1,d2,d3⟩:=e6d X cb k hc1
       have c1:=hrk.cell k (dg X k:Nat) (d6v X _ k hlt)
       have hf1:=hrk.frozen (o' + k)
       have b1:=a7p X k
       have e1:(2 * ((dg X k:Nat):Int) + ((dq X cb k:Nat):Int)) % 256=((dg (2 * X + cb) k:Nat):Int):=by rw [←d2];omega
       have e2:(2 * ((dg X k:Nat):Int) + ((dq X cb k:Nat):Int)) / 256=((dq X cb (k + 1):Nat):Int):=by rw [←d3];omega
       have H5:=hrk.a6m k (dg (2 * X + cb) k:Nat) hlt
       rw [d5m _ _ _ hlt]at H5
       have H6:=hjd H5
       have HK6:=hjd (hkk.setCell (p:=⟨g',o' + k,none⟩) (.inl (by simp)) (Value.int .i64 (dg (2 * X + cb) k:Nat)))
       clear hrk hkk H5 d2 d3
       go_wp2_with fail
       go_roundg (33 - (k + 1))
       case measure=>omega
       case rel=>exact⟨k + 1,by omega,by omega,by go_num,by rw [e2],H6.out,HK6.out⟩
      ·obtain rfl:k=33:=by omega
       rw [dmix33]at hrk
       have hY:2 * X + cb < 2 * LL:=by have:=F.out.1;omega
       have hrd:=hjd (Rd.b1o hrk.ow)
       have H7:=hjd hrk
       have HK7:=hjd (HK2.out.1.a0n hkk HK2.out.2)
       have hY2:=hjd hY
       clear hrk hkk hY
       by_cases hYL:2 * X + cb < LL
       ·have hb1:b4h (2 * X + cb)=true:=decide_eq_true hYL
        have hn:=hjd (show 2 * X + cb=leV bs / 2 ^ (8 * (m - 1) + (q - 1)) % LL by rw [←F.out.2,Nat.mod_eq_of_lt hYL])
        clear hYL
        go_wp2_with (go_at_call 111;refine(b5z _ (2 * X + cb) _ hrd.out (lt33 hY2.out)).mono ?_;rw [hb1];rintro e w6 ⟨rfl,k6⟩;have H8:=hjd (H7.out.kept k6);have HK8:=hjd (HK7.out.a0i k6);clear k6)
        go_roundg (q - 1)
        case measure=>omega
        case rel=>exact⟨q - 1,B / 2,by omega,by omega,by go_num,by rw [hB2.out,b0u q hq0],⟨_,_,_,rfl,by have:=H8.out;rwa [hn.out]at this,HK2.out.2⟩,HK8.out⟩
       ·have hb1:b4h (2 * X + cb)=false:=decide_eq_false hYL
        have hn:=hjd (show 2 * X + cb - LL=leV bs / 2 ^ (8 * (m - 1) + (q - 1)) % LL by rw [e3f hY2.out (by omega),F.out.2])
        have hge:=hjd (show LL≤2 * X + cb by omega)
        clear hYL
        go_wp2_with (first
         | (go_at_call 111;refine(b5z _ (2 * X + cb) _ hrd.out (lt33 hY2.out)).mono ?_;rw [hb1];rintro e w6 ⟨rfl,k6⟩;have hrd2:=hjd (hrd.out.a1o k6);have HK8:=hjd (HK7.out.a0i k6);clear k6)
         | (go_at_call 112;refine(d2r _ (2 * X + cb) _ hrd2.out hge.out (lt33 hY2.out)).mono ?_;rintro e w7 ⟨g9,o9,c9,rfl,r9,k9,l9⟩;have H9:=hjd (And.intro r9 (And.intro (HK8.out.a0i k9) (Nat.le_trans HK8.out.size l9)));clear r9 k9 l9))
        go_roundg (q - 1)
        case measure=>omega
        case rel=>exact⟨q - 1,B / 2,by omega,by omega,by go_num,by rw [hB2.out,b0u q hq0],⟨_,_,_,rfl,by have:=H9.out.1;rwa [hn.out]at this,H9.out.2.2⟩,H9.out.2.1⟩
    ·obtain rfl:q=0:=by omega
     have hB0:B=0:=by rw [hB]
     clear hB hB2
     subst hB0
     rw [Nat.add_zero]at R2
     go_wp2_with fail
     go_roundg (m - 1)
     case measure=>omega
     case rel=>exact⟨m - 1,by omega,by omega,by go_num,⟨_,_,_,rfl,R2.out,HK2.out.2⟩,HK2.out.1⟩
  ·obtain rfl:m=0:=by omega
   rw [Nat.mul_zero,Nat.pow_zero,Nat.div_one]at R
   obtain⟨X,hX⟩:∃X,X=leV bs % LL:=⟨_,rfl⟩
   rw [←hX]at R
   have hX2:=hjd hX
   clear hX
   go_wp2_with ((with_reducible refine a0f (o:=⟨some 9,_,_,_,_,_⟩) rfl rfl a3h ?_);intro g5 w5 m5)
   have R5:=hjd (R.out.kept m5.kept)
   have B5:=hjd m5.blk
   have N:=hjd (And.intro (M.out.kept.a0i (HK.out.1.a0i m5.kept)) (And.intro (Nat.le_trans M.out.kept.size (Nat.le_trans HK.out.1.size m5.le)) (And.intro (m5.ne (HK.out.1.lt M.out.blk.lt)) (m5.ne R.out.lt))))
   have B2:=hjd ((M.out.blk.kept HK.out.1 (by simp)).kept m5.kept (by simp))
   clear m5
   go_loopg [54] 32 (fun f i wk=>∃k:Nat,k≤32∧f + k=32∧i= .int .i64 k∧Blk wk g5 22 (bv (a5u (a0p 32) 0 ((le X 32).take k))).toArray∧Kept [g5] w5 wk)
   case atStart=>exact⟨0,Nat.zero_le _,rfl,rfl,B5.out,Kept.refl _ _⟩
   case round=>
    obtain⟨k,hk,hf,rfl,hb,hkw⟩:=hrel
    by_cases hlt:k < 32
    ·have hr5:Row wr g o cc (dgs X):=R5.out.c3s hkw N.out.2.2.2
     have c1:=hr5.cell k (dg X k:Nat) (by simp [dgs,show k < 33 from by omega])
     have hfz:=hb.frozen k
     have c3:=hb.c7k k (by rw [a4u _ _ _ (by simp [a0o];omega)];simpa using hlt)
     have b1:=a7p X k
     have hst:=hb.a6m k (a1q ((le X 32)[k]'(by rw [a0o];exact hlt)))
     rw [a4q (a0p 32) (le X 32) k (by rw [a0o];exact hlt) (by simp [a0o])]at hst
     have hk2:=hkw.setCell (p:=⟨g5,k,none⟩) (.inl (by simp)) (a1q ((le X 32)[k]'(by rw [a0o];exact hlt)))
     unfold a1q at hst hk2
     rw [le_dg X k hlt]at hst hk2
     have hst2:=hjd hst
     have hk3:=hjd hk2
     have hw8:IntKind.u8.wrap ((dg X k:Nat):Int)=((dg X k:Nat):Int):=by simp [IntKind.wrap,IntKind.bits,IntKind.signed];omega
     have hw9:((dg X k:Nat):Int) % 256=((dg X k:Nat):Int):=by omega
     clear hst hk2 hb hkw hr5
     go_wp2_with fail
     go_roundg (32 - (k + 1))
     case measure=>omega
     case rel=>exact⟨k + 1,by omega,by omega,by go_num,hst2.out,hk3.out⟩
    ·obtain rfl:k=32:=by omega
     have hb2:=hjd hb
     have hk2:=hjd hkw
     clear hb hkw
     rw [List.take_of_length_le (by rw [a0o];exact Nat.le_refl _),a7b _ _ (by rw [a0o];rfl)]at hb2
     go_wp2_with (first
      | (refine a0s a1u rfl (.tmp 9) rfl rfl hb2.out (by simp [a0o]) ?_)
      | (refine a1p a1u rfl (.tmp 2) (.tmp 65) rfl rfl rfl (B2.out.kept hk2.out (by have:=N.out.2.2.1;simpa using this)) rfl (by simp [a0o]) (a2a _) ?_;intro w6 b6 k6))
     exact a5c a1u rfl rfl b6 (by simp [a0o]) rfl ⟨by rw [hX2.out],(N.out.1.a0n hk2.out N.out.2.1).a0n k6 M.out.le⟩
end Go.Proofs.YtdbngnlpafcogaaGreat.Z
namespace Go.Proofs.YtdbngnlpafcogaaGreat.Z
open Go.RowKit Go.Mem
def ac(x y k:Nat):Nat:=(x % 256 ^ k + y % 256 ^ k) / 256 ^ k
theorem e5a(x y:Nat):ac x y 0=0:=by simp [ac,Nat.mod_one]
theorem c9u(x y k:Nat):ac x y k≤1∧(ac x y k + (dg x k + dg y k)) % 256=dg (x + y) k∧(ac x y k + (dg x k + dg y k)) / 256=ac x y (k + 1):=by
 have hp:0 < 256 ^ k:=Nat.pow_pos (by decide)
 have m1:=b3x x k
 have m2:=b3x y k
 have l1:x % 256 ^ k < 256 ^ k:=Nat.mod_lt _ hp
 have l2:y % 256 ^ k < 256 ^ k:=Nat.mod_lt _ hp
 have e1:x=256 ^ k * (x / 256 ^ k) + x % 256 ^ k:=(Nat.div_add_mod x (256 ^ k)).symm
 have e2:y=256 ^ k * (y / 256 ^ k) + y % 256 ^ k:=(Nat.div_add_mod y (256 ^ k)).symm
 have h1:(x + y) / 256 ^ k=(x / 256 ^ k + y / 256 ^ k) + ac x y k:=by
  have:x + y=256 ^ k * (x / 256 ^ k + y / 256 ^ k) + (x % 256 ^ k + y % 256 ^ k):=by
   rw [Nat.mul_add];omega
  rw [this,Nat.mul_add_div hp];rfl
 have h2:ac x y (k + 1)=(ac x y k + (dg x k + dg y k)) / 256:=by
  show(x % 256 ^ (k + 1) + y % 256 ^ (k + 1)) / 256 ^ (k + 1)=_
  rw [m1,m2,Nat.pow_succ,←Nat.div_div_eq_div_mul]
  congr 1
  have:x % 256 ^ k + 256 ^ k * dg x k + (y % 256 ^ k + 256 ^ k * dg y k)=256 ^ k * (dg x k + dg y k) + (x % 256 ^ k + y % 256 ^ k):=by
   rw [Nat.mul_add];omega
  rw [this,Nat.mul_add_div hp,Nat.add_comm];rfl
 have h3:ac x y k≤1:=by
  have:ac x y k < 2:=by
   unfold ac
   rw [Nat.div_lt_iff_lt_mul hp];omega
  omega
 refine⟨h3,?_,h2.symm⟩
 show _=(x + y) / 256 ^ k % 256
 rw [h1]
 show(ac x y k + (x / 256 ^ k % 256 + y / 256 ^ k % 256)) % 256=_
 omega
theorem c3y(x n i:Nat)(h:i < n):(((le x n)[i]'(by rw [a0o];exact h)).toNat:Int)=(dg x i:Int):=by
 rw [a8c x n i h,UInt8.toNat_ofNat']
 unfold dg
 rw [show(256:Nat) ^ i=2 ^ (8 * i)from by rw [Nat.pow_mul]]
 omega
theorem b7x(bs:List UInt8)(i:Nat)(h:i < bs.length):bs[i].toNat=dg (leV bs) i:=by
 have e:=b2d bs
 have h2:=c3y (leV bs) bs.length i h
 simp only [e]at h2
 omega
theorem e0c(n:Nat)(hn:n≤100):∃Z:Array Value,Z=(bv (a0p n)).toArray∧∀W:World,(Instr.makeSlice 23 (.int .i64 n) (.int .i64 n)).run Tryz.prog W= .ok (.slice (some ⟨W.heap.size,0,none⟩) n n) (W.alloc (.cells Z 5)):=
 ⟨_,rfl,fun W=>by
  have h:=run_mk a2x n (by omega) (by omega) W
  have e:madeCells (Value.int .u8 0).cells n=(bv (a0p n)).toArray:=by
   apply Array.toList_inj.1
   exact d2s n
  rw [e]at h
  exact h⟩
theorem ac_top{A B:Nat}(ha:A < 2 ^ (8 * 32))(hb:B < 2 ^ (8 * 32)):ac A B 32=dg (A + B) 32:=by
 obtain⟨h1,-,-⟩:=c9u A B 32
 have e:(256:Nat) ^ 32=2 ^ (8 * 32):=by rw [Nat.pow_mul]
 unfold ac at h1 ⊢
 unfold dg
 rw [e]at h1 ⊢
 rw [Nat.mod_eq_of_lt ha,Nat.mod_eq_of_lt hb]at h1 ⊢
 omega
structure Add3 (w0:World) (g2 g3 g4 G:Nat) (a b s:List UInt8) (u:World):Prop where
 a:Blk u g2 22 (bv a).toArray
 b:Blk u g3 22 (bv b).toArray
 c:Blk u g4 22 (bv (a0p 32)).toArray
 s:Blk u G 5 (bv s).toArray
 k:Kept [] w0 u
theorem Add3.drew{w0:World}{g2 g3 g4 G:Nat}{a b s:List UInt8}{u:World}(h:Add3 w0 g2 g3 g4 G a b s u):Add3 w0 g2 g3 g4 G a b s u.drew:=⟨h.a,h.b,h.c,h.s,h.k.drew⟩
theorem Add3.a6m{w0:World}{g2 g3 g4 G:Nat}{a b s s':List UInt8}{u:World}(h:Add3 w0 g2 g3 g4 G a b s u)(k:Nat)(v:Value)(hs:(bv s).toArray.setIfInBounds k v=(bv s').toArray)(n:g2≠G∧g3≠G∧g4≠G)(hl:w0.heap.size≤G):Add3 w0 g2 g3 g4 G a b s' (u.setCell ⟨G,k,none⟩ v):=
 have hk:Kept [G] u (u.setCell ⟨G,k,none⟩ v):=(Kept.refl [G] u).setCell (.inl (by simp)) v
 ⟨h.a.kept hk (by simpa using n.1),h.b.kept hk (by simpa using n.2.1),h.c.kept hk (by simpa using n.2.2),by have:=h.s.a6m k v;rwa [hs]at this,h.k.a0n hk hl⟩
set_option maxHeartbeats 1600000 in
theorem c5f(a b:List UInt8)(w:World)(ha:a.length=32)(hb:b.length=32) :
 Calls Tryz.prog 46 #[ab a,ab b] w fun e w'=>e= .returned (ab (le ((leV a + leV b) % LL) 32))∧Kept [] w w':=by
 have hL:=hjd (And.intro ha hb)
 obtain⟨Z,hZ,hmk⟩:=e0c 33 (by omega)
 have hmk:∀W:World,(Instr.makeSlice 23 (.int .i64 33) (.int .i64 33)).run Tryz.prog W= .ok (.slice (some ⟨W.heap.size,0,none⟩) 33 33) (W.alloc (.cells Z 5)):=hmk
 have hZ2:=hjd hZ
 obtain⟨A,hA⟩:∃A,A=leV a:=⟨_,rfl⟩
 obtain⟨B,hB⟩:∃B,B=leV b:=⟨_,rfl⟩
 have hA2:A < 2 ^ (8 * 32):=by have:=a6f a;rwa [ha,←hA]at this
 have hB2:B < 2 ^ (8 * 32):=by have:=a6f b;rwa [hb,←hB]at this
 rw [←hA,←hB]
 obtain⟨R,hR0⟩:∃R,R=(A + B) % LL:=⟨_,rfl⟩
 rw [←hR0]
 have hR:=hjd hR0
 clear hR0
 have hAB:=hjd (And.intro hA hB)
 have hlt2:=hjd (And.intro hA2 hB2)
 clear ha hb hZ hA hB hA2 hB2
 go_enter Tryz.func46,Tryz.ntmps46
 go_wp2_with (first
  | ((with_reducible refine a0m (o:=⟨some 2,_,_,_,_,_⟩) (v:=ab a) rfl (.tmp 0) rfl rfl ?_);intro g2 w2 m2)
  | ((with_reducible refine a0m (o:=⟨some 3,_,_,_,_,_⟩) (v:=ab b) rfl (.tmp 1) rfl rfl ?_);intro g3 w3 m3)
  | ((with_reducible refine a0f (o:=⟨some 4,_,_,_,_,_⟩) rfl rfl a3h ?_);intro g4 w4 m4))
 have bA:=(m2.blk.kept m3.kept (by simp)).kept m4.kept (by simp)
 have bB:=m3.blk.kept m4.kept (by simp)
 have K4:=(m2.kept.a0i m3.kept).a0i m4.kept
 have hN:=hjd (show(g2≠w4.heap.size∧g3≠w4.heap.size∧g4≠w4.heap.size)∧w.heap.size≤w4.heap.size∧w.heap.size≤g4 from
  ⟨⟨Nat.ne_of_lt bA.lt,Nat.ne_of_lt bB.lt,Nat.ne_of_lt m4.blk.lt⟩,K4.size,Nat.le_trans (m2.kept.a0i m3.kept).size m4.le⟩)
 have H0:=hjd (show Add3 w g2 g3 g4 w4.heap.size a b (a5u (a0p 33) 0 ((le (A + B) 33).take 0)) (w4.alloc (.cells Z 5))from
  ⟨bA.alloc _,bB.alloc _,m4.blk.alloc _,by have:=Blk.new w4 5 Z;rw [hZ2.out]at this ⊢;exact this,K4.alloc _⟩)
 clear m2 m3 m4 bA bB K4
 go_loopg [7,6] 32 (fun f i c wk=>∃k:Nat,k≤32∧f + k=32∧i= .int .i64 k∧c= .int .i64 (ac A B k:Nat)∧Add3 w g2 g3 g4 w4.heap.size a b (a5u (a0p 33) 0 ((le (A + B) 33).take k)) wk)
 case atStart=>exact⟨0,Nat.zero_le _,rfl,rfl,by rw [e5a];rfl,H0.out⟩
 case round=>
  obtain⟨k,hk,hf,rfl,rfl,hs⟩:=hrel
  have H:=hjd hs
  clear hs
  have hlk:=hjd (show∀j,j < 33→j < (a5u (a0p 33) 0 ((le (A + B) 33).take k)).length from fun j hj=>by rw [a4u _ _ _ (by simp [a0o,a0p];omega)];simpa [a0p]using hj)
  obtain⟨s1,s2,s3⟩:=c9u A B k
  by_cases hlt:k < 32
  ·have d1:=b7x a k (by have:=hL.out.1;omega)
   have d2:=b7x b k (by have:=hL.out.2;omega)
   rw [←hAB.out.1]at d1
   rw [←hAB.out.2]at d2
   have c1:=H.out.a.c7k k (by have:=hL.out.1;omega)
   have c2:=H.out.b.c7k k (by have:=hL.out.2;omega)
   rw [d1]at c1
   rw [d2]at c2
   have b1:=a7p A k
   have b2:=a7p B k
   have b3:=a7p (A + B) k
   have e1:(((ac A B k:Nat):Int) + (((dg A k:Nat):Int) + ((dg B k:Nat):Int))) % 256=((dg (A + B) k:Nat):Int):=by rw [←s2];omega
   have e2:(((ac A B k:Nat):Int) + (((dg A k:Nat):Int) + ((dg B k:Nat):Int))) / 256=((ac A B (k + 1):Nat):Int):=by rw [←s3];omega
   have hfz:=H.out.s.frozen k
   have c3:=H.out.s.c7k k (hlk.out k (by omega))
   have hst:=a4q (a0p 33) (le (A + B) 33) k (by rw [a0o];omega) (by simp [a0o,a0p])
   unfold a1q at hst
   rw [c3y (A + B) 33 k (by omega)]at hst
   have H2:=hjd (H.out.a6m k _ hst hN.out.1 hN.out.2.1)
   have hw8:IntKind.u8.wrap ((dg (A + B) k:Nat):Int)=((dg (A + B) k:Nat):Int):=by simp [IntKind.wrap,IntKind.bits,IntKind.signed];omega
   have hw9:((dg (A + B) k:Nat):Int) % 256=((dg (A + B) k:Nat):Int):=by omega
   clear s2 s3 d1 d2 hst
   go_wp2_with fail
   refine Txt.a3a (by kernel_rfl) (by kernel_rfl) ?_
   go_wp2_with fail
   refine⟨rfl,by kernel_rfl,?_⟩
   go_wp2_with fail
   go_roundg (32 - (k + 1))
   case measure=>omega
   case rel=>exact⟨k + 1,by omega,by omega,by go_num,by rw [e2],H2.out.drew⟩
  ·obtain rfl:k=32:=by omega
   have et:=ac_top hlt2.out.1 hlt2.out.2
   rw [et]
   have b3:=a7p (A + B) 32
   have hfz:=H.out.s.frozen 32
   have c3:=H.out.s.c7k 32 (hlk.out 32 (by omega))
   have hst:=a4q (a0p 33) (le (A + B) 33) 32 (by rw [a0o];omega) (by simp [a0o,a0p])
   unfold a1q at hst
   rw [c3y (A + B) 33 32 (by omega)]at hst
   have H1:=H.out.a6m 32 _ hst hN.out.1 hN.out.2.1
   rw [List.take_of_length_le (by rw [a0o];omega),a7b _ _ (by rw [a0o];rfl)]at H1
   have H2:=hjd H1
   have hw8:IntKind.u8.wrap ((dg (A + B) 32:Nat):Int)=((dg (A + B) 32:Nat):Int):=by simp [IntKind.wrap,IntKind.bits,IntKind.signed];omega
   have hw9:((dg (A + B) 32:Nat):Int) % 256=((dg (A + B) 32:Nat):Int):=by omega
   have hmd:=hjd (b6p (.slice (some ⟨w4.heap.size,0,none⟩) 33 33) (le (A + B) 33) _ (by rw [a0o];exact Blk.rd H1.s (by simp [a0o]) (Nat.le_refl _)) (by rw [a0o];omega))
   have e33:leV (le (A + B) 33)=A + B:=by
    rw [a5f]
    have h1:=hlt2.out
    have h2:(2:Nat) ^ (8 * 33)=2 ^ (8 * 32) * 256:=by decide +kernel
    exact Nat.mod_eq_of_lt (by rw [h2];omega)
   rw [e33]at hmd
   clear hst H1 s1 s2 s3 et e33
   rw [←hR.out]at hmd
   go_wp2_with (first
    | (go_at_call 44;refine hmd.out.mono ?_;rintro e w6 ⟨rfl,k6⟩;have C6:=hjd (And.intro (H2.out.c.kept k6 (by simp)) (H2.out.k.a0i k6));clear k6)
    | (refine a1p a1u rfl (.tmp 4) (.tmp 37) rfl rfl rfl C6.out.1 rfl (by simp [a0o]) (a2a _) ?_;intro w7 b7 k7))
   exact a5c a1u rfl rfl b7 (by simp [a0o]) rfl ⟨rfl,C6.out.2.a0n k7 hN.out.2.2⟩
end Go.Proofs.YtdbngnlpafcogaaGreat.Z
namespace Go.Proofs.YtdbngnlpafcogaaGreat.Z
open Go.RowKit Go.Mem
def dv:List Nat→Nat
 | []=>0
 | x :: l=>x + 256 * dv l
theorem e6t(n:Nat):dv (List.replicate n 0)=0:=by
 induction n with
 | zero=>rfl
 | succ n ih=>rw [List.replicate_succ];show 0 + 256 * dv _=0;rw [ih]
theorem e0b:∀(l:List Nat) (k v:Nat) (h:k < l.length),dv (l.set k (l[k] + v))=dv l + v * 256 ^ k
 | x :: l,0,v,_=>by show x + v + 256 * dv l=x + 256 * dv l + v * 256 ^ 0;omega
 | x :: l,k + 1,v,h=>by
   have ih:=e0b l k v (by simpa using h)
   show x + 256 * dv (l.set k (l[k]'(by simpa using h) + v))=x + 256 * dv l + v * 256 ^ (k + 1)
   rw [ih,Nat.pow_succ,Nat.mul_add]
   have:v * (256 ^ k * 256)=256 * (v * 256 ^ k):=by rw [←Nat.mul_assoc,Nat.mul_comm]
   omega
theorem a3y:∀(l:List Nat) (k:Nat),dv l=dv (l.take k) + 256 ^ k * dv (l.drop k)
 | [],k=>by simp [dv]
 | x :: l,0=>by simp [dv]
 | x :: l,k + 1=>by
   have ih:=a3y l k
   show x + 256 * dv l=x + 256 * dv (l.take k) + 256 ^ (k + 1) * dv (l.drop k)
   rw [Nat.pow_succ,Nat.mul_comm (256 ^ k) 256,Nat.mul_assoc]
   omega
theorem dv_one(l:List Nat)(k:Nat)(h:k < l.length):dv (l.drop k)=l[k] + 256 * dv (l.drop (k + 1)):=by
 rw [List.drop_eq_getElem_cons h];rfl
def cm(l:List Nat)(k:Nat):Nat:=dv (l.take k) / 256 ^ k
theorem d2c(l:List Nat):cm l 0=0:=by simp [cm,dv]
theorem e2b(l:List Nat)(k:Nat)(h:k < l.length):(cm l k + l[k]) % 256=dg (dv l) k∧(cm l k + l[k]) / 256=cm l (k + 1):=by
 have hp:0 < 256 ^ k:=Nat.pow_pos (by decide)
 have s0:=a3y l k
 have s1:=a3y l (k + 1)
 have o1:=dv_one l k h
 have e1:dv (l.take (k + 1))=dv (l.take k) + 256 ^ k * l[k]:=by
  rw [o1,Nat.mul_add]at s0
  rw [Nat.pow_succ,Nat.mul_assoc]at s1
  omega
 constructor
 ·unfold cm dg
  rw [s0,Nat.add_comm (dv (l.take k)),Nat.mul_add_div hp,o1]
  omega
 ·unfold cm
  rw [e1,Nat.pow_succ,←Nat.div_div_eq_div_mul,Nat.add_comm (dv (l.take k)),Nat.mul_add_div hp,Nat.add_comm l[k]]
structure MInv (A B i j:Nat) (l:List Nat):Prop where
 len:l.length=65
 val:dv l=(A % 256 ^ i) * B + dg A i * 256 ^ i * (B % 256 ^ j)
 bd:∀x∈l,x≤(i * 32 + j) * 65025
theorem c6y(A B:Nat):MInv A B 0 0 (List.replicate 65 0):=
 ⟨by simp,by rw [e6t];simp [Nat.mod_one],fun x hx=>by have:=List.eq_of_mem_replicate hx;omega⟩
theorem e0u(A B i j:Nat):dg A i * dg B j≤65025:=by
 have h1:=a7p A i
 have h2:=a7p B j
 exact Nat.mul_le_mul (show _≤255 by omega) (show _≤255 by omega)
theorem d1t{A B i j:Nat}{l:List Nat}(h:MInv A B i j l)(hl:i + j < l.length):MInv A B i (j + 1) (l.set (i + j) (l[i + j] + dg A i * dg B j)):=by
 refine⟨by simpa using h.len,?_,?_⟩
 ·rw [e0b l (i + j) _ hl,h.val,b3x B j,Nat.mul_add]
  have:dg A i * 256 ^ i * (256 ^ j * dg B j)=dg A i * dg B j * 256 ^ (i + j):=by
   rw [Nat.pow_add];ac_rfl
  rw [this,Nat.add_assoc]
 ·intro x hx
  have hm:=e0u A B i j
  rcases List.mem_or_eq_of_mem_set hx with h1 | h1
  ·exact Nat.le_trans (h.bd x h1) (Nat.mul_le_mul_right _ (by omega))
  ·have:=h.bd _ (List.getElem_mem hl);omega
theorem c8s{A B i:Nat}{l:List Nat}(h:MInv A B i 32 l)(hB:B < 256 ^ 32):MInv A B (i + 1) 0 l:=by
 refine⟨h.len,?_,fun x hx=>Nat.le_trans (h.bd x hx) (Nat.mul_le_mul_right _ (by clear hB;omega))⟩
 have hv:=h.val
 generalize (256:Nat) ^ 32=N at hv hB
 rw [hv,Nat.mod_eq_of_lt hB,b3x A i,Nat.add_mul,Nat.pow_zero,Nat.mod_one,Nat.mul_zero,Nat.add_zero,Nat.mul_comm (256 ^ i)]
theorem d7u{A B:Nat}{l:List Nat}(h:MInv A B 32 0 l)(hA:A < 256 ^ 32):dv l=A * B∧∀x∈l,x≤66585600:=by
 refine⟨?_,fun x hx=>by have:=h.bd x hx;omega⟩
 have hv:=h.val
 generalize (256:Nat) ^ 32=N at hv hA
 rw [hv,Nat.mod_eq_of_lt hA,Nat.pow_zero,Nat.mod_one,Nat.mul_zero,Nat.add_zero]
def nv(l:List Nat):List Value:=l.map fun n:Nat=>.int .i64 (n:Int)
theorem nv_set(l:List Nat)(k m:Nat):(nv l).toArray.setIfInBounds k (.int .i64 (m:Int))=(nv (l.set k m)).toArray:=by simp [nv,List.map_set]
theorem intsZ(n:Nat)(hn:n≤100):∃Z:Array Value,Z=(nv (List.replicate n 0)).toArray∧∀W:World,(Instr.makeSlice 53 (.int .i64 n) (.int .i64 n)).run Tryz.prog W= .ok (.slice (some ⟨W.heap.size,0,none⟩) n n) (W.alloc (.cells Z 3)):=
 ⟨_,rfl,fun W=>by
  have h:=run_mk intT n (by omega) (by omega) W
  have e:madeCells (Value.int .i64 0).cells n=(nv (List.replicate n 0)).toArray:=by
   apply Array.toList_inj.1
   exact(a6u (.int .i64 0) n).trans (by simp [nv])
  rw [e]at h
  exact h⟩
structure Mul5 (w0:World) (g2 g3 g4 G:Nat) (a b:List UInt8) (l:List Nat) (u:World):Prop where
 a:Blk u g2 22 (bv a).toArray
 b:Blk u g3 22 (bv b).toArray
 c:Blk u g4 22 (bv (a0p 32)).toArray
 s:Blk u G 3 (nv l).toArray
 k:Kept [] w0 u
theorem Mul5.drew{w0:World}{g2 g3 g4 G:Nat}{a b:List UInt8}{l:List Nat}{u:World}(h:Mul5 w0 g2 g3 g4 G a b l u):Mul5 w0 g2 g3 g4 G a b l u.drew:=⟨h.a,h.b,h.c,h.s,h.k.drew⟩
theorem Mul5.a6m{w0:World}{g2 g3 g4 G:Nat}{a b:List UInt8}{l:List Nat}{u:World}(h:Mul5 w0 g2 g3 g4 G a b l u)(k m:Nat)(n:g2≠G∧g3≠G∧g4≠G)(hl:w0.heap.size≤G):Mul5 w0 g2 g3 g4 G a b (l.set k m) (u.setCell ⟨G,k,none⟩ (.int .i64 (m:Int))):=
 have hk:Kept [G] u (u.setCell ⟨G,k,none⟩ (.int .i64 (m:Int))):=(Kept.refl [G] u).setCell (.inl (by simp)) _
 ⟨h.a.kept hk (by simpa using n.1),h.b.kept hk (by simpa using n.2.1),h.c.kept hk (by simpa using n.2.2),by have:=h.s.a6m k (.int .i64 (m:Int));rwa [nv_set]at this,h.k.a0n hk hl⟩
theorem Blk.nget{w:World}{l:List Nat}{g:Nat}{bt:TypeId}(h:Blk w g bt (nv l).toArray)(k:Nat)(hk:k < l.length):w.cell? ⟨g,k,none⟩=some (.int .i64 (l[k]:Int)):=Blk.mget (f:=fun n:Nat=>Value.int .i64 (n:Int)) h k hk
structure Mul9 (w0:World) (g4 T G:Nat) (l:List Nat) (s:List UInt8) (u:World):Prop where
 c:Blk u g4 22 (bv (a0p 32)).toArray
 t:Blk u T 3 (nv l).toArray
 s:Blk u G 5 (bv s).toArray
 k:Kept [] w0 u
theorem Mul9.a6m{w0:World}{g4 T G:Nat}{l:List Nat}{s s':List UInt8}{u:World}(h:Mul9 w0 g4 T G l s u)(k:Nat)(v:Value)(hs:(bv s).toArray.setIfInBounds k v=(bv s').toArray)(n:g4≠G∧T≠G)(hl:w0.heap.size≤G):Mul9 w0 g4 T G l s' (u.setCell ⟨G,k,none⟩ v):=
 have hk:Kept [G] u (u.setCell ⟨G,k,none⟩ v):=(Kept.refl [G] u).setCell (.inl (by simp)) v
 ⟨h.c.kept hk (by simpa using n.1),h.t.kept hk (by simpa using n.2),by have:=h.s.a6m k v;rwa [hs]at this,h.k.a0n hk hl⟩
set_option maxHeartbeats 1600000 in
theorem b6z(a b:List UInt8)(w:World)(ha:a.length=32)(hb:b.length=32) :
 Calls Tryz.prog 47 #[ab a,ab b] w fun e w'=>e= .returned (ab (le ((leV a * leV b) % LL) 32))∧Kept [] w w':=by
 have hL:=hjd (And.intro ha hb)
 obtain⟨Z,hZ,hmk⟩:=intsZ 65 (by omega)
 have hmk:∀W:World,(Instr.makeSlice 53 (.int .i64 65) (.int .i64 65)).run Tryz.prog W= .ok (.slice (some ⟨W.heap.size,0,none⟩) 65 65) (W.alloc (.cells Z 3)):=hmk
 obtain⟨Y,hY,hmy⟩:=e0c 65 (by omega)
 have hmy:∀W:World,(Instr.makeSlice 23 (.int .i64 65) (.int .i64 65)).run Tryz.prog W= .ok (.slice (some ⟨W.heap.size,0,none⟩) 65 65) (W.alloc (.cells Y 5)):=hmy
 have hZ2:=hjd (And.intro hZ hY)
 obtain⟨A,hA⟩:∃A,A=leV a:=⟨_,rfl⟩
 obtain⟨B,hB⟩:∃B,B=leV b:=⟨_,rfl⟩
 have e32:(256:Nat) ^ 32=2 ^ (8 * 32):=by rw [Nat.pow_mul]
 have hA2:A < 256 ^ 32:=by have:=a6f a;rwa [ha,←hA,←e32]at this
 have hB2:B < 256 ^ 32:=by have:=a6f b;rwa [hb,←hB,←e32]at this
 rw [←hA,←hB]
 obtain⟨R,hR0⟩:∃R,R=(A * B) % LL:=⟨_,rfl⟩
 rw [←hR0]
 have hR:=hjd hR0
 have hAB:=hjd (And.intro hA hB)
 have hlt2:=hjd (And.intro hA2 hB2)
 clear ha hb hZ hY hA hB hA2 hB2 hR0 e32
 go_enter Tryz.func47,Tryz.ntmps47
 go_wp2_with (first
  | ((with_reducible refine a0m (o:=⟨some 2,_,_,_,_,_⟩) (v:=ab a) rfl (.tmp 0) rfl rfl ?_);intro g2 w2 m2)
  | ((with_reducible refine a0m (o:=⟨some 3,_,_,_,_,_⟩) (v:=ab b) rfl (.tmp 1) rfl rfl ?_);intro g3 w3 m3)
  | ((with_reducible refine a0f (o:=⟨some 4,_,_,_,_,_⟩) rfl rfl a3h ?_);intro g4 w4 m4))
 have bA:=(m2.blk.kept m3.kept (by simp)).kept m4.kept (by simp)
 have bB:=m3.blk.kept m4.kept (by simp)
 have K4:=(m2.kept.a0i m3.kept).a0i m4.kept
 have hN:=hjd (show(g2≠w4.heap.size∧g3≠w4.heap.size∧g4≠w4.heap.size)∧w.heap.size≤w4.heap.size∧w.heap.size≤g4 from
  ⟨⟨Nat.ne_of_lt bA.lt,Nat.ne_of_lt bB.lt,Nat.ne_of_lt m4.blk.lt⟩,K4.size,Nat.le_trans (m2.kept.a0i m3.kept).size m4.le⟩)
 have H0:=hjd (show Mul5 w g2 g3 g4 w4.heap.size a b (List.replicate 65 0) (w4.alloc (.cells Z 3))from
  ⟨bA.alloc _,bB.alloc _,m4.blk.alloc _,by have:=Blk.new w4 3 Z;rw [hZ2.out.1]at this ⊢;exact this,K4.alloc _⟩)
 clear m2 m3 m4 bA bB K4
 go_loopg [6] 32 (fun f i wk=>∃(k:Nat) (l:List Nat),k≤32∧f + k=32∧i= .int .i64 k∧Mul5 w g2 g3 g4 w4.heap.size a b l wk∧MInv A B k 0 l)
 case atStart=>exact⟨0,_,Nat.zero_le _,rfl,rfl,H0.out,c6y A B⟩
 case round=>
  obtain⟨i,l,hi,hf,rfl,hs,hv⟩:=hrel
  have H:=hjd hs
  have V:=hjd hv
  clear hs hv
  by_cases hlt:i < 32
  ·go_wp2_with fail
   obtain⟨wo,rfl⟩:∃wo:World,wo=wr:=⟨_,rfl⟩
   go_loopg [7] 32 (fun f j wk=>∃(k:Nat) (l:List Nat),k≤32∧f + k=32∧j= .int .i64 k∧Mul5 w g2 g3 g4 w4.heap.size a b l wk∧MInv A B i k l)
   case atStart=>exact⟨0,_,Nat.zero_le _,rfl,rfl,H.out,V.out⟩
   case round=>
    obtain⟨j,l,hj,hf2,rfl,hs,hv⟩:=hrel
    have H:=hjd hs
    have V:=hjd hv
    clear hs hv
    by_cases hlt2j:j < 32
    ·have d1:=b7x a i (by have:=hL.out.1;omega)
     have d2:=b7x b j (by have:=hL.out.2;omega)
     rw [←hAB.out.1]at d1
     rw [←hAB.out.2]at d2
     have c1:=H.out.a.c7k i (by have:=hL.out.1;omega)
     have c2:=H.out.b.c7k j (by have:=hL.out.2;omega)
     rw [d1]at c1
     rw [d2]at c2
     have hij:=hjd (show i + j < l.length by have:=V.out.len;omega)
     obtain⟨y,hy⟩:∃y,y=l[i + j]'hij.out:=⟨_,rfl⟩
     obtain⟨p,hp⟩:∃p,p=dg A i * dg B j:=⟨_,rfl⟩
     have c3:=Blk.nget H.out.s (i + j) hij.out
     rw [←hy]at c3
     have hy2:y≤66585600:=by have:=V.out.bd _ (List.getElem_mem hij.out);rw [←hy]at this;omega
     have hp2:p≤65025:=by rw [hp];exact e0u A B i j
     have hpi:((dg A i:Nat):Int) * ((dg B j:Nat):Int)=((p:Nat):Int):=by rw [hp];exact(Int.natCast_mul _ _).symm
     have hm:wrap64 (wrap64 ((dg A i:Nat):Int) * wrap64 ((dg B j:Nat):Int))=((p:Nat):Int):=by
      have b1:=a7p A i
      have b2:=a7p B j
      rw [IntWalk.wrap64_in ((dg A i:Nat):Int) ⟨by omega,by omega⟩,IntWalk.wrap64_in ((dg B j:Nat):Int) ⟨by omega,by omega⟩,hpi,IntWalk.wrap64_in _ ⟨by omega,by omega⟩]
     have hfz:=H.out.s.frozen (i + j)
     have H2:=hjd (H.out.a6m (i + j) (y + p) hN.out.1 hN.out.2.1)
     have V2:=hjd (show MInv A B i (j + 1) (l.set (i + j) (y + p)) by rw [hy,hp];exact d1t V.out hij.out)
     clear d1 d2 hy hp hpi
     go_wp2_with fail
     refine Txt.a3a (by kernel_rfl) (by kernel_rfl) ?_
     go_wp2_with fail
     refine⟨rfl,by kernel_rfl,?_⟩
     go_wp2_with fail
     go_roundg (32 - (j + 1))
     case measure=>omega
     case rel=>exact⟨j + 1,_,by omega,by omega,by go_num,H2.out.drew,V2.out⟩
    ·obtain rfl:j=32:=by omega
     have V2:=hjd (c8s V.out hlt2.out.2)
     go_wp2_with fail
     go_roundg (32 - (i + 1))
     case measure=>omega
     case rel=>exact⟨i + 1,_,by omega,by omega,by go_num,H.out,V2.out⟩
  ·obtain rfl:i=32:=by omega
   obtain⟨hdv,hbd⟩:=d7u V.out hlt2.out.1
   have D:=hjd (And.intro hdv hbd)
   have hlen:=hjd V.out.len
   clear hdv hbd
   go_wp2_with fail
   have h6:=H.out
   have hG:=hjd (show w4.heap.size≠wr.heap.size∧g4≠wr.heap.size∧w.heap.size≤wr.heap.size from⟨Nat.ne_of_lt h6.s.lt,Nat.ne_of_lt h6.c.lt,h6.k.size⟩)
   have H7:=hjd (show Mul9 w g4 w4.heap.size wr.heap.size l (a5u (a0p 65) 0 ((le (A * B) 65).take 0)) (wr.alloc (.cells Y 5))from
    ⟨h6.c.alloc _,h6.s.alloc _,by have:=Blk.new wr 5 Y;rw [hZ2.out.2]at this ⊢;exact this,h6.k.alloc _⟩)
   clear h6
   obtain⟨wq,hwq⟩:∃wq:World,wq=wr:=⟨_,rfl⟩
   subst hwq
   go_loopg [40,9] 65 (fun f j cc wk=>∃(k:Nat),k≤65∧f + k=65∧j= .int .i64 k∧cc= .int .i64 (cm l k:Nat)∧cm l k≤66585600∧Mul9 w g4 w4.heap.size wq.heap.size l (a5u (a0p 65) 0 ((le (A * B) 65).take k)) wk)
   case atStart=>exact⟨0,Nat.zero_le _,rfl,rfl,by rw [d2c];rfl,by rw [d2c];omega,H7.out⟩
   case round=>
    obtain⟨k,hk,hf3,rfl,rfl,hcb,hs⟩:=hrel
    have H:=hjd hs
    clear hs
    have hlk:=hjd (show∀j,j < 65→j < (a5u (a0p 65) 0 ((le (A * B) 65).take k)).length from fun j hj=>by rw [a4u _ _ _ (by simp [a0o,a0p];omega)];simpa [a0p]using hj)
    by_cases hlt3:k < 65
    ·have hkl:=hjd (show k < l.length by have:=hlen.out;omega)
     obtain⟨s2,s3⟩:=e2b l k hkl.out
     rw [D.out.1]at s2
     obtain⟨y,hy⟩:∃y,y=l[k]'hkl.out:=⟨_,rfl⟩
     have c1:=Blk.nget H.out.t k hkl.out
     rw [←hy]at c1 s2 s3
     have hy2:y≤66585600:=by rw [hy];exact D.out.2 _ (List.getElem_mem hkl.out)
     have b3:=a7p (A * B) k
     have e1:(((cm l k:Nat):Int) + ((y:Nat):Int)) % 256=((dg (A * B) k:Nat):Int):=by rw [←s2];omega
     have e2:(((cm l k:Nat):Int) + ((y:Nat):Int)) / 256=((cm l (k + 1):Nat):Int):=by rw [←s3];omega
     have hcb2:=hjd (show cm l (k + 1)≤66585600 by rw [←s3];omega)
     have hfz:=H.out.s.frozen k
     have c3:=H.out.s.c7k k (hlk.out k hlt3)
     have hst:=a4q (a0p 65) (le (A * B) 65) k (by rw [a0o];omega) (by simp [a0o,a0p])
     unfold a1q at hst
     rw [c3y (A * B) 65 k (by omega)]at hst
     have H2:=hjd (H.out.a6m k _ hst ⟨hG.out.2.1,hG.out.1⟩ hG.out.2.2)
     have hw8:IntKind.u8.wrap ((dg (A * B) k:Nat):Int)=((dg (A * B) k:Nat):Int):=by simp [IntKind.wrap,IntKind.bits,IntKind.signed];omega
     have hw9:((dg (A * B) k:Nat):Int) % 256=((dg (A * B) k:Nat):Int):=by omega
     clear s2 s3 hst hy
     go_wp2_with fail
     go_roundg (65 - (k + 1))
     case measure=>omega
     case rel=>exact⟨k + 1,by omega,by omega,by go_num,by rw [e2],hcb2.out,H2.out⟩
    ·obtain rfl:k=65:=by omega
     have H1:=H.out
     rw [List.take_of_length_le (by rw [a0o];omega),a7b _ _ (by rw [a0o];rfl)]at H1
     have H2:=hjd H1
     have hmd:=hjd (b6p (.slice (some ⟨wq.heap.size,0,none⟩) 65 65) (le (A * B) 65) _ (by rw [a0o];exact Blk.rd H1.s (by simp [a0o]) (Nat.le_refl _)) (by rw [a0o];omega))
     have e65:leV (le (A * B) 65)=A * B:=by
      rw [a5f]
      exact Nat.mod_eq_of_lt (Nat.lt_of_lt_of_le (Nat.mul_lt_mul'' hlt2.out.1 hlt2.out.2) (by decide +kernel))
     rw [e65,←hR.out]at hmd
     clear H1 e65
     go_wp2_with (first
      | (go_at_call 44;refine hmd.out.mono ?_;rintro e w6 ⟨rfl,k6⟩;have C6:=hjd (And.intro (H2.out.c.kept k6 (by simp)) (H2.out.k.a0i k6));clear k6)
      | (refine a1p a1u rfl (.tmp 4) (.tmp 59) rfl rfl rfl C6.out.1 rfl (by simp [a0o]) (a2a _) ?_;intro w7 b7 k7))
     exact a5c a1u rfl rfl b7 (by simp [a0o]) rfl ⟨rfl,C6.out.2.a0n k7 hN.out.2.2⟩
end Go.Proofs.YtdbngnlpafcogaaGreat.Z
