/-
  Scalars, in a namespace of their own.
-/
import Derived.Test.YtdbngnlpafcogaaGreatRows
import Derived.Test.YtdbngnlpafcogaaGreatZcText
import Derived.Test.YtdbngnlpafcogaaGreatZcFam
import Derived.Laws.Externs
import Derived.Laws.Bits64b
import Derived.Laws.Shifts
import Derived.WalkKit
import Derived.WalkSpells
import Derived.WalkLawsBesides
import Derived.Deep.LoopGhost
import Derived.Deep.DeepCutAuto
import Derived.Deep.CutBlock
import Derived.BigQuiet
import Derived.Deep.QuietTactic
import Derived.Test.YtdbngnlpafcogaaGreatZcFe15
set_option maxRecDepth 100000
namespace Go.Proofs.YtdbngnlpafcogaaGreat.Z
def MM:Nat:=18446744073709551616
def M4:Nat:=115792089237316195423570985008687907853269984665640564039457584007913129639936
def LL:Nat:=7237005577332262213973186563042994240857116359379907606001950938285454250989
def wrd(x i:Nat):Nat:=x / 2 ^ (64 * i) % 18446744073709551616
theorem a6d(x i:Nat):wrd x i < 18446744073709551616:=Nat.mod_lt _ (by decide)
theorem e5i(x:Nat):wrd x 0=x % 18446744073709551616:=by simp [wrd]
theorem e8m(x:Nat):wrd x 1=x / 18446744073709551616 % 18446744073709551616:=rfl
theorem e8h(x:Nat):wrd x 2=x / 340282366920938463463374607431768211456 % 18446744073709551616:=rfl
theorem e7y(x:Nat):wrd x 3=x / 6277101735386680763835789423207666416102355444464034512896 % 18446744073709551616:=rfl
theorem four{k:Nat}(h:k < 4):k=0∨k=1∨k=2∨k=3:=by omega
theorem LL0:wrd LL 0=6346243789798364141:=by decide +kernel
theorem LL1:wrd LL 1=1503914060200516822:=by decide +kernel
theorem LL2:wrd LL 2=0:=by decide +kernel
theorem LL3:wrd LL 3=1152921504606846976:=by decide +kernel
def bor(x y k:Nat):Nat:=if x % 2 ^ (64 * k) < y % 2 ^ (64 * k)then 1 else 0
theorem bor_le(x y k:Nat):bor x y k≤1:=by unfold bor;split <;> omega
theorem d8b(x y:Nat):bor x y 0=0:=by simp [bor,Nat.mod_one]
theorem two0:2 ^ (64 * 0)=1:=rfl
theorem two1:2 ^ (64 * 1)=18446744073709551616:=rfl
theorem two2:2 ^ (64 * 2)=340282366920938463463374607431768211456:=rfl
theorem two3:2 ^ (64 * 3)=6277101735386680763835789423207666416102355444464034512896:=rfl
theorem two4:2 ^ (64 * 4)=115792089237316195423570985008687907853269984665640564039457584007913129639936:=rfl
theorem d9t(x y k:Nat)(hk:k < 4):(if wrd x k < wrd y k + bor x y k then 1 else 0)=bor x y (k + 1):=by
 rcases four hk with rfl | rfl | rfl | rfl
 ·simp [bor,e5i,Nat.mod_one]
 ·simp only [bor,e8m,two1];split <;> split <;> split at * <;> omega
 ·simp only [bor,e8h,two2];split <;> split <;> split at * <;> omega
 ·simp only [bor,e7y,two3];split <;> split <;> split at * <;> omega
theorem e0k(x y k:Nat)(hk:k < 4)(hx:x < M4)(hy:y < M4):(wrd x k + 18446744073709551616 - wrd y k - bor x y k) % 18446744073709551616=wrd (x + M4 - y) k:=by
 unfold M4 at *;rcases four hk with rfl | rfl | rfl | rfl
 ·simp only [bor,e5i,two0,Nat.mod_one];split <;> omega
 ·simp only [bor,e8m,two1];split <;> omega
 ·simp only [bor,e8h,two2];split <;> omega
 ·simp only [bor,e7y,two3];split <;> omega
theorem e0u(x y:Nat)(hx:x < M4)(hy:y < M4):bor x y 4=if x < y then 1 else 0:=by
 unfold M4 at *;simp only [bor,two4];rw [Nat.mod_eq_of_lt hx,Nat.mod_eq_of_lt hy]
def car(x y c k:Nat):Nat:=(x % 2 ^ (64 * k) + y % 2 ^ (64 * k) + c) / 2 ^ (64 * k)
theorem d9r(x y c:Nat):car x y c 0=c:=by simp [car,Nat.mod_one]
theorem car_le(x y c k:Nat)(hk:k < 5)(hc:c≤1):car x y c k≤1:=by
 have h:k=0∨k=1∨k=2∨k=3∨k=4:=by omega
 rcases h with rfl | rfl | rfl | rfl | rfl
 ·simp only [car,two0];omega
 ·simp only [car,two1];omega
 ·simp only [car,two2];omega
 ·simp only [car,two3];omega
 ·simp only [car,two4];omega
theorem d8h(x y c k:Nat)(hk:k < 4)(hc:c≤1):(wrd x k + wrd y k + car x y c k) % 18446744073709551616=wrd (x + y + c) k∧(wrd x k + wrd y k + car x y c k) / 18446744073709551616=car x y c (k + 1):=by
 rcases four hk with rfl | rfl | rfl | rfl
 ·simp only [car,e5i,two0];omega
 ·simp only [car,e8m,two1];omega
 ·simp only [car,e8h,two2];omega
 ·simp only [car,e7y,two3];omega
end Go.Proofs.YtdbngnlpafcogaaGreat.Z
namespace Go.Proofs.YtdbngnlpafcogaaGreat.Z
open Go.RowKit Go.Mem
theorem b6w:ArrT Tryz.prog 76 67 4:=⟨Tryz.underlying76,by kernel_rfl⟩
theorem d0t:(Tryz.prog.info? 76).map (·.zero)=some (some (.agg #[.int .u64 0,.int .u64 0,.int .u64 0,.int .u64 0])):=by kernel_rfl
theorem a7x(x y c:Nat)(hc:c≤1)(w:World):(callFunc 103 #[.int .u64 x,.int .u64 y,.int .u64 c]).run Tryz.prog w =
 .ok (.value (.tuple #[.int .u64 ((x + y + c) % 18446744073709551616:Nat),.int .u64 ((x + y + c) / 18446744073709551616:Nat)])) w:=by
 rw [run_callFunc_extern (e:=add64Entry) Tryz.func103 (by kernel_rfl) (by kernel_rfl) (by kernel_rfl) (by kernel_rfl)];rw [run_add64 _ _ _ (by omega) (by omega) (by omega) (by omega)];simp [Result.andThen]
theorem d0f(x y b:Nat)(hb:b≤1)(w:World):(callFunc 161 #[.int .u64 x,.int .u64 y,.int .u64 b]).run Tryz.prog w =
 .ok (.value (.tuple #[.int .u64 ((x + 18446744073709551616 - y - b) % 18446744073709551616:Nat),.int .u64 (if x < y + b then 1 else 0:Nat)])) w:=by
 have he:Extern.find Tryz.f161=some (fun args=>do
  let(x,y,b)←Extern.MathBitsCarry.three "Sub64" args
  pure (Extern.MathBitsCarry.pair ((x + Extern.MathBitsCarry.m64 - y - b) % Extern.MathBitsCarry.m64) (if x < y + b then 1 else 0))):=by kernel_rfl
 rw [run_callFunc_extern Tryz.func161 (by kernel_rfl) (by kernel_rfl) (by kernel_rfl) he];have:b=0∨b=1:=by omega
 rcases this with rfl | rfl
 ·show Result.andThen (.ok (Extern.MathBitsCarry.pair ((x + Extern.MathBitsCarry.m64 - y - 0) % Extern.MathBitsCarry.m64) (if x < y + 0 then 1 else 0)) w) _=_;rfl
 ·show Result.andThen (.ok (Extern.MathBitsCarry.pair ((x + Extern.MathBitsCarry.m64 - y - 1) % Extern.MathBitsCarry.m64) (if x < y + 1 then 1 else 0)) w) _=_;rfl
def ws4(x:Nat):List Nat:=[wrd x 0,wrd x 1,wrd x 2,wrd x 3]
theorem e3z(x:Nat):(ws4 x).length=4:=rfl
theorem d7g(x k:Nat)(hk:k < 4):(ws4 x)[k]'(hk)=wrd x k:=by
 rcases four hk with rfl | rfl | rfl | rfl <;> rfl
abbrev w4(x:Nat):Value:=.agg (uv (ws4 x)).toArray
theorem d1z{x y:Nat}(h:x % M4=y % M4):ws4 x=ws4 y:=by
 unfold M4 at h;unfold ws4;rw [e5i,e8m,e8h,e7y,e5i,e8m,e8h,e7y];congr 1
 ·omega
 ·congr 1
  ·omega
  ·congr 1
   ·omega
   ·congr 1;omega
theorem w4_at(x k:Nat)(hk:k < 4):(uv (ws4 x)).toArray[k]?=some (.int .u64 (wrd x k:Nat)):=by
 rcases four hk with rfl | rfl | rfl | rfl <;> rfl
theorem a9q(x k:Nat)(hk:k < 4)(w:World):(Instr.index 76 (w4 x) (.int .i64 k)).run Tryz.prog w= .ok (.int .u64 (wrd x k:Nat)) w:=
 a6f b6w Tryz.underlying67 rfl (by kernel_rfl) .i64 k hk (w4_at x k hk) w
abbrev zeroA:List Nat:=[0,0,0,0]
def pw(y k:Nat):List Nat:=a5y zeroA 0 ((ws4 y).take k)
theorem pw_len(y k:Nat):(pw y k).length=4:=by unfold pw;rw [a8f _ _ _ (by simp [e3z];omega)];rfl
theorem pw4(y:Nat):pw y 4=ws4 y:=rfl
theorem e4n{w:World}{g:Nat}{bt:TypeId}(y k:Nat)(hk:k < 4)(h:Blk w g bt (uv (pw y k)).toArray):Blk (w.setCell ⟨g,k,none⟩ (.int .u64 (wrd y k:Nat))) g bt (uv (pw y (k + 1))).toArray:=by
 have:=h.b3i k (.int .u64 (wrd y k:Nat));have e:=b7m (fun z:Nat=>Value.int .u64 (z:Int)) zeroA (ws4 y) k hk (Nat.le_refl 4);rw [d7g y k hk]at e;unfold pw at this ⊢
 rwa [e]at this
theorem e4t{w:World}{g:Nat}{bt:TypeId}(y k:Nat)(hk:k < 4)(h:Blk w g bt (uv (pw y k)).toArray):∃u,w.cell? ⟨g,k,none⟩=some u:=
 ⟨_,h.uget k (by rw [pw_len];exact hk)⟩
theorem Blk.e4r{w:World}{g:Nat}{bt:TypeId}{x:Nat}(h:Blk w g bt (uv (ws4 x)).toArray)(k:Nat)(hk:k < 4):w.cell? ⟨g,k,none⟩=some (.int .u64 (wrd x k:Nat)):=by
 rw [h.cell];exact w4_at x k hk
def dif(x:Nat):Nat:=x + M4 - LL
theorem e7d:LL < M4:=by decide +kernel
theorem e7c(x:Nat)(h:LL≤x):dif x % M4=(x - LL) % M4:=by
 unfold dif;rw [show x + M4 - LL=(x - LL) + M4 from by omega,Nat.add_mod_right]
theorem d7y(x k:Nat)(hk:k < 4)(hx:x < M4)(w:World):(callFunc 161 #[.int .u64 (wrd x k:Nat),.int .u64 (wrd LL k:Nat),.int .u64 (bor x LL k:Nat)]).run Tryz.prog w =
 .ok (.value (.tuple #[.int .u64 (wrd (dif x) k:Nat),.int .u64 (bor x LL (k + 1):Nat)])) w:=by
 rw [d0f _ _ _ (bor_le _ _ _),d9t x LL k hk,e0k x LL k hk hx (by decide +kernel)];rfl
theorem d6z(w:World):Calls Tryz.prog 160 #[] w fun e w'=>e= .returned (w4 LL)∧Kept [] w w':=by
 unfold w4 ws4;rw [LL0,LL1,LL2,LL3];go_enter Tryz.func160,Tryz.ntmps160;go_wp2_with fail;exact a6l b6w rfl rfl (Blk.new _ _ _) rfl rfl ⟨rfl,(Kept.refl [] w).alloc _⟩
def red(x:Nat):Nat:=if x < LL then x else x - LL
theorem e2j{x:Nat}(h:x < LL):red x=x:=if_pos h
theorem red_ge{x:Nat}(h:¬x < LL):red x=x - LL:=if_neg h
theorem d4n{x:Nat}(h:x < 2 * LL):red x=x % LL:=by
 unfold red;split
 ·rw [Nat.mod_eq_of_lt (by assumption)]
 ·rw [Nat.mod_eq_sub_mod (by omega),Nat.mod_eq_of_lt (by omega)]
theorem b1b(x:Nat)(hx:x < M4)(w:World):Calls Tryz.prog 104 #[w4 x] w fun e w'=>e= .returned (w4 (red x))∧Kept [] w w':=by
 have hx2:=hjd hx;clear hx;go_enter Tryz.func104,Tryz.ntmps104;go_wp2_with (first
  | ((with_reducible refine a0q (o:=⟨some 1,_,_,_,_,_⟩) (v:=w4 x) rfl (.tmp 0) rfl rfl ?_);intro g1 w1 m1)
  | ((with_reducible refine a0h (o:=⟨some 2,_,_,_,_,_⟩) rfl rfl d0t ?_);intro g2 w2 m2)
  | ((with_reducible refine a0h (o:=⟨some 3,_,_,_,_,_⟩) rfl rfl d0t ?_);intro g3 w3 m3)
  | (go_at_call 160;refine(d6z _).mono ?_;rintro e w5 ⟨rfl,hk4⟩))
 have n13:=m3.ne (m2.kept.lt m1.blk.lt);have n23:=m3.ne m2.blk.lt;have n12:=m2.ne m1.blk.lt;have b1:=((m1.blk.kept m2.kept (by simp)).kept m3.kept (by simp)).kept hk4 (by simp);have b2:=(m2.blk.kept m3.kept (by simp)).kept hk4 (by simp);have b3:=m3.blk.kept hk4 (by simp);have kw:Kept [] w w5:=((m1.kept.a0g m2.kept).a0g m3.kept).a0g hk4;have B:=hjd (And.intro b1 (And.intro b2 b3));have N:=hjd (And.intro n13 (And.intro n23 n12));have M:=hjd (And.intro kw (And.intro m1.le (And.intro (Nat.le_trans m1.kept.size m2.le) (Nat.le_trans (m1.kept.a0g m2.kept).size m3.le))));clear b1 b2 b3 n13 n23 n12 kw hk4 m1 m2 m3;go_loopg [8,4] 4 (fun g i b wk=>∃k:Nat,k≤4∧g + k=4∧i= .int .i64 k∧b= .int .u64 (bor x LL k:Nat)∧Blk wk g3 76 (uv (pw (dif x) k)).toArray∧Kept [g3] w5 wk);case atStart=>exact⟨0,by omega,rfl,rfl,by rw [d8b];rfl,B.out.2.2,Kept.refl _ _⟩
 case round=>
  obtain⟨k,hk,hg,rfl,rfl,hb,hkw⟩:=hrel;by_cases hlt:k < 4
  ·have c1:=Blk.e4r (B.out.1.kept hkw (by simpa using N.out.1)) k hlt;have hi:=a9q LL k hlt;have hc:=d7y x k hlt hx2.out;have hf:=hb.frozen k;obtain⟨u3,c3⟩:=e4t _ k hlt hb;have hst2:=hjd (e4n _ k hlt hb);have hk2:=hjd (hkw.setCell (p:=⟨g3,k,none⟩) (.inl (by simp)) (Value.int .u64 (wrd (dif x) k:Nat)));clear hb hkw;go_wp2_with fail;go_roundg (4 - (k + 1));case measure=>omega
   case rel=>exact⟨k + 1,by omega,by omega,by go_num,rfl,hst2.out,hk2.out⟩
  ·obtain rfl:k=4:=by omega
   have hb4:=e0u x LL hx2.out e7d;have hbb:=hjd hb;have hkk:=hjd hkw;clear hb hkw;by_cases hxl:x < LL
   ·rw [if_pos hxl]at hb4;have hq:=hjd (e2j hxl);clear hxl;go_wp2_with (first
     | (refine a0t b6w rfl (.tmp 1) rfl rfl (B.out.1.kept hkk.out (by simpa using N.out.1)) rfl ?_)
     | (refine a1p b6w rfl (.tmp 2) (.tmp 26) rfl rfl rfl (B.out.2.1.kept hkk.out (by simpa using N.out.2.1)) rfl rfl (a2e _) ?_;intro w6 b6 k6))
    exact a6l b6w rfl rfl b6 rfl rfl ⟨by rw [hq.out];rfl,(M.out.1.a0r hkk.out M.out.2.2.2).a0r k6 M.out.2.2.1⟩
   ·rw [if_neg hxl]at hb4;have e:(uv (pw (dif x) 4)).toArray=(uv (ws4 (x - LL))).toArray:=by
     rw [pw4,d1z (e7c x (by omega))]
    rw [e]at hbb;have hq:=hjd (red_ge hxl);clear hxl e;go_wp2_with (first
     | (refine a0t b6w rfl (.tmp 3) rfl rfl hbb.out rfl ?_)
     | (refine a1p b6w rfl (.tmp 2) (.tmp 27) rfl rfl rfl (B.out.2.1.kept hkk.out (by simpa using N.out.2.1)) rfl rfl (a2e _) ?_;intro w6 b6 k6))
    exact a6l b6w rfl rfl b6 rfl rfl ⟨by rw [hq.out],(M.out.1.a0r hkk.out M.out.2.2.2).a0r k6 M.out.2.2.1⟩
end Go.Proofs.YtdbngnlpafcogaaGreat.Z
namespace Go.Proofs.YtdbngnlpafcogaaGreat.Z
open Go.RowKit Go.Mem
def val:List Nat→Nat
 | []=>0
 | a :: l=>a + 18446744073709551616 * val l
theorem e2f:∀(l:List Nat),(∀z∈l,z < 18446744073709551616)→val l < 2 ^ (64 * l.length)
 | [],_=>by simp [val]
 | a :: l,h=>by
   have h1:=e2f l (fun z hz=>h z (List.mem_cons_of_mem _ hz));have h2:=h a (by simp);simp only [val,List.length_cons];rw [show 64 * (l.length + 1)=64 + 64 * l.length from by omega,Nat.pow_add];generalize 2 ^ (64 * l.length)=Q at *;omega
theorem c7w:∀(l:List Nat) (i:Nat) (_:∀z∈l,z < 18446744073709551616) (h:i < l.length),val l / 2 ^ (64 * i) % 18446744073709551616=l[i]
 | a :: l,0,hz,_=>by
   have h2:=hz a (by simp);simp only [val,List.getElem_cons_zero,Nat.mul_zero,Nat.pow_zero,Nat.div_one];omega
 | a :: l,i + 1,hz,h=>by
   have h1:=c7w l i (fun z hh=>hz z (List.mem_cons_of_mem _ hh)) (by simpa using h);have h2:=hz a (by simp);simp only [val,List.getElem_cons_succ];rw [←h1,show 64 * (i + 1)=64 + 64 * i from by omega,Nat.pow_add,←Nat.div_div_eq_div_mul];congr 2;show(a + 18446744073709551616 * val l) / 18446744073709551616=val l;omega
theorem e7u(l:List Nat)(i k:Nat)(hz:∀z∈l,z < 18446744073709551616)(h:i < l.length)(hk:k < 64):l[i] / 2 ^ k % 2=val l / 2 ^ (64 * i + k) % 2:=by
 rw [←c7w l i hz h,Nat.pow_add,←Nat.div_div_eq_div_mul];generalize val l / 2 ^ (64 * i)=V;have e:18446744073709551616=2 ^ k * 2 ^ (64 - k):=by rw [←Nat.pow_add,show k + (64 - k)=64 from by omega]
 rw [e,Nat.mod_mul_right_div_self,show 64 - k=1 + (63 - k)from by omega,Nat.pow_add,Nat.pow_one,Nat.mod_mul_right_mod]
def dc(x c j:Nat):Nat:=(2 * (x % 2 ^ (64 * j)) + c) / 2 ^ (64 * j)
theorem e7r(x c:Nat):dc x c 0=c:=by simp [dc,Nat.mod_one]
theorem e7i(x c j:Nat)(hj:j < 4)(hc:c≤1):wrd x j / 9223372036854775808=dc x c (j + 1)∧dc x c j≤1∧wrd x j * 2 % 18446744073709551616 + dc x c j=wrd (2 * x + c) j:=by
 rcases four hj with rfl | rfl | rfl | rfl
 ·simp only [dc,e5i,two0];omega
 ·simp only [dc,e8m,two1];omega
 ·simp only [dc,e8h,two2];omega
 ·simp only [dc,e7y,two3];omega
theorem e7m(a c:Nat)(_:a < 18446744073709551616)(hc:c≤1):bits .or .u64 (IntKind.u64.wrap ((a:Int) * 2)) (c:Int)=((a * 2 % 18446744073709551616 + c:Nat):Int):=by
 have e1:IntKind.u64.wrap ((a:Int) * 2)=((a * 2 % 18446744073709551616:Nat):Int):=by rw [IntKind.wrap_u64];omega
 rw [e1,bits_or_u64_nat _ _ (by omega) (by omega)];have h2:a * 2 % 18446744073709551616=2 ^ 1 * (a % 9223372036854775808):=by omega
 rw [h2];congr 1;exact(Nat.two_pow_add_eq_or_of_lt (i:=1) (b:=c) (by omega) _).symm
def qw(x y j:Nat):List Nat:=a5y (ws4 x) 0 ((ws4 y).take j)
theorem qw4(x y:Nat):qw x y 4=ws4 y:=rfl
theorem d6x{w:World}{g:Nat}{bt:TypeId}(x y k:Nat)(hk:k < 4)(h:Blk w g bt (uv (qw x y k)).toArray):Blk (w.setCell ⟨g,k,none⟩ (.int .u64 (wrd y k:Nat))) g bt (uv (qw x y (k + 1))).toArray:=by
 have:=h.b3i k (.int .u64 (wrd y k:Nat));have e:=b7m (fun z:Nat=>Value.int .u64 (z:Int)) (ws4 x) (ws4 y) k hk (Nat.le_refl 4);rw [d7g y k hk]at e;unfold qw at this ⊢
 rwa [e]at this
theorem d4a{w:World}{g:Nat}{bt:TypeId}(x y k:Nat)(hk:k < 4)(h:Blk w g bt (uv (qw x y k)).toArray):w.cell? ⟨g,k,none⟩=some (.int .u64 (wrd x k:Nat)):=by
 rw [h.cell];rcases four hk with rfl | rfl | rfl | rfl <;> rfl
theorem d5d(V p:Nat):(2 * (V / 2 ^ (p + 1) % LL) + V / 2 ^ p % 2) % LL=V / 2 ^ p % LL:=by
 rw [Nat.pow_succ,←Nat.div_div_eq_div_mul];generalize V / 2 ^ p=U;have h:2 * (U / 2 % LL) + U % 2=(2 * (U / 2) + U % 2) - 2 * LL * (U / 2 / LL):=by
  have:=Nat.div_add_mod (U / 2) LL;have e:2 * LL * (U / 2 / LL)=2 * (LL * (U / 2 / LL)):=by rw [Nat.mul_assoc]
  omega
 rw [Nat.add_mod,Nat.mul_mod,Nat.mod_mod,←Nat.mul_mod,←Nat.add_mod];congr 1;omega
theorem a8s:(Tryz.prog.info? 78).map (·.zero)=some (some (.agg #[.int .u64 0,.int .u64 0,.int .u64 0,.int .u64 0])):=by kernel_rfl
theorem a1y:RowT Tryz.prog 78 4:=⟨⟨_,Tryz.underlying78,rfl⟩,by kernel_rfl⟩
theorem b9e(x:Nat):Tryz.prog.built 78 [(0,w4 x)]=some (uv (ws4 x)).toArray:=by kernel_rfl
theorem two_lt{X c:Nat}(h:X < LL)(hc:c≤1):2 * X + c < M4:=by
 have:2 * LL < M4:=by decide +kernel
 omega
theorem c7d:0 < LL:=by decide +kernel
theorem e5b(a k:Nat)(ha:a < 18446744073709551616):bits .and .u64 ((a:Int) / 2 ^ k) 1=((a / 2 ^ k % 2:Nat):Int):=by
 have e:((a:Int) / 2 ^ k)=((a / 2 ^ k:Nat):Int):=by simp
 have h:=bits_and_u64_nat (a / 2 ^ k) 1 (Nat.lt_of_le_of_lt (Nat.div_le_self _ _) ha) (by omega);rw [e];simpa [Nat.and_one_is_mod]using h
theorem e7h{w W:World}{xb xo c g n:Nat}{l l':List Value}(_:Rd W 1 (.slice (some ⟨xb,xo,none⟩) n c) n l')(hn:0 < n)(h:Rd w 1 (.slice (some ⟨xb,xo,none⟩) n c) n l)(hg:w.heap.size≤g):xb∉[g]:=by
 obtain⟨b,hb,hlt⟩:=h.lt (by omega) hn
 cases hb
 have hlt:xb < w.heap.size:=hlt;simp;omega
set_option maxHeartbeats 800000 in
theorem e0f(v:Value)(ws:List Nat)(w:World)(hr:Rd w 1 v ws.length (uv ws))(hz:∀z∈ws,z < 18446744073709551616)(hl:ws.length≤1000000) :
 Calls Tryz.prog 106 #[v] w fun e w'=>e= .returned (w4 (val ws % LL))∧Kept [] w w':=by
 have hr2:=hjd hr;have hz2:=hjd hz;obtain⟨A,c,rfl,_,_,_⟩:=hr;clear hz;go_enter Tryz.func106,Tryz.ntmps106;go_wp2_with (first
  | ((with_reducible refine a0h (o:=⟨some 2,_,_,_,_,_⟩) rfl rfl a8s ?_);intro g2 w2 m2)
  | ((with_reducible refine a0h (o:=⟨some 3,_,_,_,_,_⟩) rfl rfl d0t ?_);intro g3 w3 m3))
 have n23:=hjd (m3.ne m2.blk.lt);have kw:=hjd (m2.kept.a0g m3.kept);have b2:=hjd (m2.blk.kept m3.kept (by simp))
 have b3:=hjd (show Blk w3 g3 76 (uv (ws4 (val ws / 2 ^ (64 * ws.length) % LL))).toArray from by
  rw [Nat.div_eq_of_lt (e2f ws hz2.out)];exact m3.blk)
 have ml:=hjd (And.intro m2.le (Nat.le_trans m2.kept.size m3.le))
 have far:=hjd (show∀W,Kept [g3] w3 W→Rd W 1 (.slice A ws.length c) ws.length (uv ws)from fun W hW=>(hr2.out.a0k kw.out).kept hW (fun hn g hg hm=>by
  obtain⟨b,hb,hlt⟩:=hr2.out.lt (by omega) hn;rw [hg]at hb;cases hb
  have:g=g3:=by simpa using hm
  have:=m3.le;have:=m2.kept.size;omega))
 clear m2 m3;go_loopg [4] ws.length (fun g i wk=>∃m:Nat,g=m∧m≤ws.length∧i= .int .i64 ((m:Int) - 1)∧Blk wk g3 76 (uv (ws4 (val ws / 2 ^ (64 * m) % LL))).toArray∧Kept [g3] w3 wk);case atStart=>exact⟨ws.length,rfl,Nat.le_refl _,rfl,b3.out,Kept.refl _ _⟩
 case round=>
  obtain⟨m,hg,hm,rfl,hb,hkw⟩:=hrel;by_cases hm0:0 < m
  ·have hi0:(0:Int)≤(m:Int) - 1:=by omega
   have hi1:(1:Int)≤(m:Int):=by omega
   have hx:=(far.out _ hkw).at_ (by omega);obtain⟨xb,xo,xc,hxe,_,hcell⟩:=hx
   cases hxe
   have hb2:=hjd hb;have hk2:=hjd hkw;have hc2:=hjd hcell;clear hb hkw hcell;go_wp2_with fail;obtain⟨wo,rfl⟩:∃wo:World,wo=wr:=⟨_,rfl⟩;go_loopg [5] 64 (fun g k wk=>∃q:Nat,g=q∧q≤64∧k= .int .i64 ((q:Int) - 1)∧Blk wk g3 76 (uv (ws4 (val ws / 2 ^ (64 * (m - 1) + q) % LL))).toArray∧Kept [g3] wo wk);case atStart=>exact⟨64,rfl,Nat.le_refl _,rfl,by rw [show 64 * (m - 1) + 64=64 * m from by omega];exact hb2.out,Kept.refl _ _⟩
   case round=>
    obtain⟨q,hg2,hq,rfl,hb3,hkw3⟩:=hrel;by_cases hq0:0 < q
    ·obtain⟨cb,hcb⟩:∃cb,cb=val ws / 2 ^ (64 * (m - 1) + (q - 1)) % 2:=⟨_,rfl⟩;obtain⟨X,hX⟩:∃X,X=val ws / 2 ^ (64 * (m - 1) + q) % LL:=⟨_,rfl⟩;rw [←hX]at hb3;have hc1:cb≤1:=by omega
     have hcm:=hkw3.cell (S:=[g3]) (hc2.out (m - 1) (.int .u64 (ws[m - 1]:Nat)) (by simp [show m - 1 < ws.length from by omega])) (e7h (far.out _ hk2.out) (by omega) hr2.out (by have:=ml.out.2;omega));have hbit:bits .and .u64 ((ws[m - 1]:Int) / 2 ^ (q - 1)) 1=(cb:Int):=by
      rw [hcb,e5b _ _ (hz2.out _ (List.getElem_mem _)),e7u ws (m - 1) (q - 1) hz2.out (by omega) (by omega)]
     have hXL:X < LL:=by rw [hX];exact Nat.mod_lt _ c7d
     have hnext:red (2 * X + cb)=val ws / 2 ^ (64 * (m - 1) + (q - 1)) % LL:=by
      rw [d4n (by omega),hX,hcb];have:=d5d (val ws) (64 * (m - 1) + (q - 1))
      rwa [show 64 * (m - 1) + (q - 1) + 1=64 * (m - 1) + q from by omega]at this
     have hn2:=hjd hnext;have hX2:=hjd hXL;have hb4:=hjd hb3;have hk4:=hjd hkw3;clear hcb hX hXL hnext hb3 hkw3;go_wp2_with fail;obtain⟨wp,rfl⟩:∃wp:World,wp=wr:=⟨_,rfl⟩;go_loopg [27,6] 4 (fun g i cv wk=>∃j:Nat,j≤4∧g + j=4∧i= .int .i64 j∧cv= .int .u64 (dc X cb j:Nat)∧Blk wk g3 76 (uv (qw X (2 * X + cb) j)).toArray∧Kept [g3] wp wk);case atStart=>exact⟨0,by omega,rfl,rfl,by rw [e7r],hb4.out,Kept.refl _ _⟩
     case round=>
      obtain⟨j,hj,hg3,rfl,rfl,hb5,hkw5⟩:=hrel;by_cases hlt:j < 4
      ·obtain⟨d1,d2,d3⟩:=e7i X cb j hlt hc1;have c1:=d4a X (2 * X + cb) j hlt hb5;have hf:=hb5.frozen j;have hor:=e7m (wrd X j) (dc X cb j) (a6d _ _) d2;rw [d3]at hor;have hsh:((wrd X j:Nat):Int) / 9223372036854775808=(dc X cb (j + 1):Nat):=by rw [←d1];rfl
       have hst2:=hjd (d6x X (2 * X + cb) j hlt hb5);have hk6:=hjd (hkw5.setCell (p:=⟨g3,j,none⟩) (.inl (by simp)) (Value.int .u64 (wrd (2 * X + cb) j:Nat)));clear hb5 hkw5 d1 d2 d3;go_wp2_with fail;refine Txt.a2g (by kernel_rfl) (by kernel_rfl) ?_;go_wp2_with fail;refine⟨rfl,by kernel_rfl,?_⟩;go_wp2_with fail;go_roundg (4 - (j + 1));case measure=>omega
       case rel=>exact⟨j + 1,by omega,by omega,by go_num,rfl,hst2.out.drew,hk6.out.drew⟩
      ·obtain rfl:j=4:=by omega
       have hb6:=hjd hb5;have hk7:=hjd hkw5;clear hb5 hkw5;rw [qw4]at hb6;go_wp2_with (first
        | (refine a0t b6w rfl (.tmp 3) rfl rfl hb6.out rfl ?_)
        | (go_at_call 104;refine(b1b (2 * X + cb) (two_lt hX2.out hc1) _).mono ?_;rintro e w6 ⟨rfl,hk8⟩;have hb7:=hjd (hb6.out.kept hk8 (by simp));have hk9:=hjd ((hk4.out.trans' hk7.out).a0g hk8);clear hk8)
        | (refine a1p b6w rfl (.tmp 3) (.tmp 44) rfl rfl rfl hb7.out rfl rfl (a2e _) ?_;intro w7 b8 k8))
       go_roundg (q - 1);case measure=>omega
       case rel=>exact⟨q - 1,by omega,by omega,by go_num,by rw [hn2.out]at b8;exact b8,hk9.out.trans' k8⟩
    ·obtain rfl:q=0:=by omega
     have hb4:=hjd hb3;have hk4:=hjd hkw3;clear hb3 hkw3;go_wp2_with fail;go_roundg (m - 1);case measure=>omega
     case rel=>exact⟨m - 1,by omega,by omega,by go_num,by have:=hb4.out;rwa [Nat.add_zero]at this,hk2.out.trans' hk4.out⟩
  ·obtain rfl:m=0:=by omega
   have hb4:=hjd hb;have hk4:=hjd hkw;clear hb hkw;rw [Nat.mul_zero,Nat.pow_zero,Nat.div_one]at hb4;go_wp2_with (first
    | (refine a0t b6w rfl (.tmp 3) rfl rfl hb4.out rfl ?_)
    | (refine a3x rfl 0 (.tmp 45) rfl rfl (b9e _) ?_)
    | (refine a0a a1y rfl (.tmp 2) (.tmp 46) rfl rfl rfl (b2.out.kept hk4.out (by simpa using n23.out)) rfl rfl (a2e _) ?_;intro w7 b8 k8))
   exact a1m a1y rfl rfl b8 rfl rfl ⟨rfl,(kw.out.a0r hk4.out ml.out.2).a0r k8 ml.out.1⟩
theorem d4s(v:Value)(ws:List Nat)(n:Nat)(w:World)(hn:ws.length=n)(hr:Rd w 1 v ws.length (uv ws))(hz:∀z∈ws,z < 18446744073709551616)(hl:n≤1000000) :
 Calls Tryz.prog 106 #[v] w fun e w'=>e= .returned (w4 (val ws % LL))∧Kept [] w w':=by
 subst hn;exact e0f v ws w hr hz hl
end Go.Proofs.YtdbngnlpafcogaaGreat.Z
namespace Go.Proofs.YtdbngnlpafcogaaGreat.Z
open Go.RowKit Go.Mem
def leV:List UInt8→Nat
 | []=>0
 | a :: l=>a.toNat + 256 * leV l
theorem b4g:∀l:List UInt8,leV l < 256 ^ l.length
 | []=>by simp [leV]
 | a :: l=>by
   have h:=b4g l;have ha:=a.toNat_lt;simp only [leV,List.length_cons,Nat.pow_succ];omega
theorem b0h:∀(l:List UInt8) (b:UInt8),leV (l ++ [b])=leV l + b.toNat * 256 ^ l.length
 | [],b=>by simp [leV]
 | a :: l,b=>by
   simp only [List.cons_append,leV,b0h l b,List.length_cons,Nat.pow_succ];rw [Nat.mul_add,Nat.add_assoc];congr 2;rw [Nat.mul_comm 256,Nat.mul_assoc]
theorem b1r(l:List UInt8)(k:Nat)(h:k < l.length):leV (l.take (k + 1))=leV (l.take k) + l[k].toNat * 2 ^ (8 * k):=by
 rw [List.take_succ_eq_append_getElem h,b0h,List.length_take,Nat.min_eq_left (by omega),show(256:Nat)=2 ^ 8 from rfl,←Nat.pow_mul]
theorem a6p(l:List UInt8)(k:Nat)(h:k≤l.length):leV (l.take k) < 2 ^ (8 * k):=by
 have:=b4g (l.take k)
 rwa [List.length_take,Nat.min_eq_left h,show(256:Nat)=2 ^ 8 from rfl,←Nat.pow_mul]at this
theorem c4l(V b k:Nat)(hV:V < 2 ^ (8 * k))(hb:b < 256) :
 wrd V (k / 8) < 2 ^ (8 * (k % 8))∧b * 2 ^ (8 * (k % 8)) < 18446744073709551616∧wrd (V + b * 2 ^ (8 * k)) (k / 8)=wrd V (k / 8) + b * 2 ^ (8 * (k % 8)):=by
 have e:8 * k=64 * (k / 8) + 8 * (k % 8):=by omega
 unfold wrd;rw [e,Nat.pow_add]at hV ⊢;have hd:V / 2 ^ (64 * (k / 8)) < 2 ^ (8 * (k % 8)):=by
  rw [Nat.div_lt_iff_lt_mul (Nat.two_pow_pos _),Nat.mul_comm];exact hV
 have h1:(V + b * (2 ^ (64 * (k / 8)) * 2 ^ (8 * (k % 8)))) / 2 ^ (64 * (k / 8))=V / 2 ^ (64 * (k / 8)) + b * 2 ^ (8 * (k % 8)):=by
  rw [Nat.mul_left_comm,Nat.add_mul_div_left _ _ (Nat.two_pow_pos _)]
 rw [h1];generalize V / 2 ^ (64 * (k / 8))=U at *;have hr:k % 8=0∨k % 8=1∨k % 8=2∨k % 8=3∨k % 8=4∨k % 8=5∨k % 8=6∨k % 8=7:=by omega
 rcases hr with h | h | h | h | h | h | h | h <;> rw [h]at hd ⊢ <;> simp only [Nat.reduceMul,Nat.reducePow]at hd ⊢ <;> omega
theorem b9k(V b k i:Nat)(hV:V < 2 ^ (8 * k))(hb:b < 256)(hi:i≠k / 8):wrd (V + b * 2 ^ (8 * k)) i=wrd V i:=by
 unfold wrd;rcases Nat.lt_or_ge i (k / 8)with h | h
 ·have e:8 * k=64 * i + (64 + (8 * k - 64 * i - 64)):=by omega
  rw [e,Nat.pow_add,Nat.mul_left_comm,Nat.add_mul_div_left _ _ (Nat.two_pow_pos _),Nat.pow_add,Nat.mul_left_comm];exact Nat.add_mul_mod_self_left _ _ _
 ·have h2:V + b * 2 ^ (8 * k) < 2 ^ (64 * i):=by
   have:2 ^ (8 * k + 8)≤2 ^ (64 * i):=Nat.pow_le_pow_right (by omega) (by omega);rw [Nat.pow_add]at this;have h3:b * 2 ^ (8 * k)≤255 * 2 ^ (8 * k):=Nat.mul_le_mul_right _ (by omega);omega
  rw [Nat.div_eq_of_lt h2,Nat.div_eq_of_lt (by omega)]
def wds(V m:Nat):List Nat:=(List.range m).map (wrd V)
theorem d1r(V m:Nat):(wds V m).length=m:=by simp [wds]
theorem wds_lt(V m:Nat):∀z∈wds V m,z < 18446744073709551616:=by
 intro z hz;obtain⟨i,_,rfl⟩:=List.mem_map.1 hz;exact a6d _ _
theorem b9q:∀(m V:Nat),val (wds V m)=V % 2 ^ (64 * m)
 | 0,V=>by simp [wds,val,Nat.mod_one]
 | m + 1,V=>by
   have h:=b9q m (V / 18446744073709551616);have e:wds V (m + 1)=wrd V 0 :: wds (V / 18446744073709551616) m:=by
    unfold wds;rw [List.range_succ_eq_map,List.map_cons,List.map_map];congr 1;apply List.map_congr_left;intro i _;simp only [Function.comp_apply,wrd];rw [show 64 * (i.succ)=64 + 64 * i from by omega,Nat.pow_add,←Nat.div_div_eq_div_mul]
   rw [e,val,h,e5i,show 64 * (m + 1)=64 + 64 * m from by omega,Nat.pow_add];show _=V % (18446744073709551616 * _);rw [Nat.mod_mul]
theorem wds4(V:Nat):wds V 4=ws4 V:=rfl
theorem d8j{w:World}{g:Nat}{bt:TypeId}(bs:List UInt8)(m k:Nat)(hk:k < bs.length)(hm:bs.length=8 * m)(h:Blk w g bt (uv (wds (leV (bs.take k)) m)).toArray) :
 Blk (w.setCell ⟨g,k / 8,none⟩ (.int .u64 (wrd (leV (bs.take (k + 1))) (k / 8):Nat))) g bt (uv (wds (leV (bs.take (k + 1))) m)).toArray:=by
 have:=h.b3i (k / 8) (.int .u64 (wrd (leV (bs.take (k + 1))) (k / 8):Nat));have e:(uv (wds (leV (bs.take k)) m)).toArray.setIfInBounds (k / 8) (.int .u64 (wrd (leV (bs.take (k + 1))) (k / 8):Nat))=(uv (wds (leV (bs.take (k + 1))) m)).toArray:=by
  apply Array.ext_getElem?;intro i;rw [Array.getElem?_setIfInBounds];simp only [wds,List.map_map,List.size_toArray,List.length_map,List.length_range,List.getElem?_toArray,List.getElem?_map];by_cases hi:k / 8=i
  ·subst hi;rw [if_pos rfl,if_pos (by omega),List.getElem?_range (by omega)];rfl
  ·rw [if_neg hi];rcases Nat.lt_or_ge i m with h | h
   ·rw [List.getElem?_range h];simp only [Option.map_some,Function.comp_apply];rw [b1r bs k hk,b9k _ _ _ _ (a6p bs k (by omega)) (UInt8.toNat_lt _) (fun e=>hi e.symm)]
   ·rw [List.getElem?_eq_none (by simpa using h)];rfl
 rwa [e]at this
theorem e0z{w:World}{g:Nat}{bt:TypeId}(V m i:Nat)(hi:i < m)(h:Blk w g bt (uv (wds V m)).toArray):w.cell? ⟨g,i,none⟩=some (.int .u64 (wrd V i:Nat)):=by
 rw [h.cell];simp [wds,hi]
theorem d2d(a b s:Nat)(ha:a < 2 ^ s)(hb8:b < 256)(hb:b * 2 ^ s < 18446744073709551616)(hs:2 ^ s≤18446744073709551616):bits .or .u64 (a:Int) (IntKind.u64.wrap (IntKind.u64.wrap (b:Int) * 2 ^ s))=((a + b * 2 ^ s:Nat):Int):=by
 have e0:IntKind.u64.wrap (b:Int)=(b:Int):=by rw [IntKind.wrap_u64];omega
 rw [e0];have e1:IntKind.u64.wrap ((b:Int) * 2 ^ s)=((b * 2 ^ s:Nat):Int):=by
  rw [IntKind.wrap_u64];have:((b:Int) * 2 ^ s)=((b * 2 ^ s:Nat):Int):=by simp
  rw [this];omega
 rw [e1,bits_or_u64_nat _ _ (by omega) hb];congr 1;have:=Nat.two_pow_add_eq_or_of_lt ha b;rw [Nat.or_comm,Nat.mul_comm b,←this,Nat.add_comm]
theorem sliceW:SliceT Tryz.prog 158 67 1 8 (.int .u64 0):=⟨Tryz.underlying158,by kernel_rfl,rfl,by omega⟩
set_option maxHeartbeats 800000 in
theorem d1x(v:Value)(bs:List UInt8)(m:Nat)(w:World)(hr:Rd w 1 v bs.length (bv bs))(hm:bs.length=8 * m)(hm8:m≤8) :
 Calls Tryz.prog 120 #[v] w fun e w'=>∃g,e= .returned (.slice (some ⟨g,0,none⟩) m m)∧Blk w' g 67 (uv (wds (leV bs) m)).toArray∧Kept [] w w'∧w.heap.size≤g:=by
 have hr2:=hjd hr;have hm2:=hjd hm;obtain⟨A,c,rfl,_,_,_⟩:=hr;have hdiv:((bs.length:Nat):Int) / 8=(m:Int):=by omega
 have hmk:=fun W=>run_mk sliceW m (by omega) (by omega) W
 have hbl:bs.length≤64:=by omega
 clear hm;go_enter Tryz.func120,Tryz.ntmps120;go_wp2_with fail;have mk:Made w (w.alloc (.cells (madeCells #[.int .u64 0] m) 67)) w.heap.size 67 (uv (wds (leV (bs.take 0)) m)).toArray:=by
  have hz:madeCells #[.int .u64 0] m=(uv (wds 0 m)).toArray:=by
   have:=c1v (.int .u64 0) m;have h2:uv (wds 0 m)=List.replicate m (.int .u64 0):=by
    apply List.ext_getElem
    ·simp [wds]
    ·intro i h1 h2;simp [wds,wrd]
   rw [h2,←this]
  refine⟨?_,(Kept.refl [] w).alloc _,Nat.le_refl _⟩;rw [hz];exact Blk.new _ _ _
 generalize hg:w.heap.size=g at *;generalize (w.alloc (.cells (madeCells #[.int .u64 0] m) 67))=w1 at *;have M:=hjd mk;have hr3:=hjd (hr2.out.a0k mk.kept)
 have far:=hjd (show∀W,Kept [g] w1 W→Rd W 1 (.slice A bs.length c) bs.length (bv bs)from fun W hW=>hr3.out.kept hW (fun hn b hb hmem=>by
  obtain⟨b',hb',hlt⟩:=hr2.out.lt (by omega) hn;rw [hb]at hb';cases hb'
  have:b=g:=by simpa using hmem
  omega))
 clear mk hg;go_loopg [12] bs.length (fun f i wk=>∃k:Nat,k≤bs.length∧f + k=bs.length∧i= .int .i64 k∧Blk wk g 67 (uv (wds (leV (bs.take k)) m)).toArray∧Kept [g] w1 wk);case atStart=>exact⟨0,Nat.zero_le _,rfl,rfl,M.out.blk,Kept.refl _ _⟩
 case round=>
  obtain⟨k,hk,hf,rfl,hb,hkw⟩:=hrel;by_cases hlt:k < bs.length
  ·obtain⟨xb,xo,xc,hxe,_,hcell⟩:=(far.out _ hkw).at_ (by omega)
   cases hxe
   have c0:=hcell k (a1z bs[k]) (by simp [hlt]);unfold a1z at c0;have hV:=a6p bs k hk;obtain⟨n1,n2,n3⟩:=c4l (leV (bs.take k)) bs[k].toNat k hV (UInt8.toNat_lt _);have c1:=e0z (leV (bs.take k)) m (k / 8) (by have:=hm2.out;omega) hb;have hfz:=hb.frozen (k / 8);have hor:=d2d (wrd (leV (bs.take k)) (k / 8)) bs[k].toNat (8 * (k % 8)) n1 (UInt8.toNat_lt _) n2 (Nat.pow_le_pow_right (n:=2) (j:=64) (by omega) (by omega));rw [←n3,←b1r bs k hlt]at hor;have hst2:=hjd (d8j bs m k hlt hm2.out hb);have hk2:=hjd (hkw.setCell (p:=⟨g,k / 8,none⟩) (.inl (by simp)) (Value.int .u64 (wrd (leV (bs.take (k + 1))) (k / 8):Nat)));have hq:k / 8 < m:=by have:=hm2.out;omega
   clear hcell hV n1 n2 n3 hb hkw;go_wp2_with fail;go_roundg (bs.length - (k + 1));case measure=>omega
   case rel=>exact⟨k + 1,by omega,by omega,by go_num,hst2.out,hk2.out⟩
  ·obtain rfl:k=bs.length:=by omega
   have hb2:=hjd hb;have hk2:=hjd hkw;clear hb hkw;rw [List.take_length]at hb2;go_wp2_with fail;go_ret;exact⟨g,rfl,hb2.out,M.out.kept.a0r hk2.out M.out.le,M.out.le⟩
end Go.Proofs.YtdbngnlpafcogaaGreat.Z
namespace Go.Proofs.YtdbngnlpafcogaaGreat.Z
open Go.RowKit Go.Mem
theorem a2u:ArrT Tryz.prog 22 5 32:=⟨Tryz.underlying22,by kernel_rfl⟩
theorem a8l:(Tryz.prog.info? 22).map (·.zero)=some (some (ab (a0m 32))):=by kernel_rfl
def le(x n:Nat):List UInt8:=(List.range n).map fun i=>UInt8.ofNat (x / 2 ^ (8 * i) % 256)
theorem a0x(x n:Nat):(le x n).length=n:=by simp [le]
theorem b3z(x n i:Nat)(h:i < n):(le x n)[i]'(by rw [a0x];exact h)=UInt8.ofNat (x / 2 ^ (8 * i) % 256):=by simp [le]
theorem a6z:∀(n x:Nat),leV (le x n)=x % 2 ^ (8 * n)
 | 0,x=>by simp [le,leV,Nat.mod_one]
 | n + 1,x=>by
   have h:=a6z n (x / 256);have e:le x (n + 1)=UInt8.ofNat (x % 256) :: le (x / 256) n:=by
    unfold le;rw [List.range_succ_eq_map,List.map_cons,List.map_map];congr 1
    ·simp
    apply List.map_congr_left;intro i _;simp only [Function.comp_apply];rw [show 8 * (i.succ)=8 + 8 * i from by omega,Nat.pow_add,←Nat.div_div_eq_div_mul]
   have hm:(UInt8.ofNat (x % 256)).toNat=x % 256:=by rw [UInt8.toNat_ofNat'];omega
   rw [e,leV,h,hm,show 8 * (n + 1)=8 + 8 * n from by omega,Nat.pow_add];show _=x % (256 * _);rw [Nat.mod_mul]
theorem b8p:∀l:List UInt8,le (leV l) l.length=l
 | []=>rfl
 | a :: l=>by
   have h:=b8p l;have ha:=a.toNat_lt;unfold le;rw [List.length_cons,List.range_succ_eq_map,List.map_cons,List.map_map];congr 1
   ·have:leV (a :: l) / 2 ^ (8 * 0) % 256=a.toNat:=by simp only [leV,Nat.mul_zero,Nat.pow_zero,Nat.div_one];omega
    rw [this];simp
   ·conv=>rhs;rw [←h]
    unfold le;apply List.map_congr_left;intro i _;simp only [Function.comp_apply];rw [show 8 * (i.succ)=8 + 8 * i from by omega,Nat.pow_add,←Nat.div_div_eq_div_mul];congr 3;show(a.toNat + 256 * leV l) / 256=leV l;omega
theorem e1s{x y n:Nat}(hx:x < 2 ^ (8 * n))(hy:y < 2 ^ (8 * n)):(le x n == le y n)=decide (x=y):=by
 rw [Bool.eq_iff_iff,beq_iff_eq,decide_eq_true_iff];constructor
 ·intro h;have:=congrArg leV h
  rwa [a6z,a6z,Nat.mod_eq_of_lt hx,Nat.mod_eq_of_lt hy]at this
 ·rintro rfl;rfl
theorem b6a(x i:Nat):wrd x (i / 8) / 2 ^ (8 * (i % 8)) % 256=x / 2 ^ (8 * i) % 256:=by
 unfold wrd;have e:8 * i=64 * (i / 8) + 8 * (i % 8):=by omega
 rw [e,Nat.pow_add,←Nat.div_div_eq_div_mul];generalize x / 2 ^ (64 * (i / 8))=U;have hr:i % 8=0∨i % 8=1∨i % 8=2∨i % 8=3∨i % 8=4∨i % 8=5∨i % 8=6∨i % 8=7:=by omega
 rcases hr with h | h | h | h | h | h | h | h <;> rw [h] <;> simp only [Nat.reduceMul,Nat.reducePow] <;> omega
theorem c5q(x i:Nat)(h:i < 32):(((wrd x (i / 8):Nat):Int) / 2 ^ (8 * (i % 8)) % 256)=(((le x 32)[i]'(by rw [a0x];exact h)).toNat:Int):=by
 rw [b3z x 32 i h,UInt8.toNat_ofNat',←b6a];have:((wrd x (i / 8):Nat):Int) / 2 ^ (8 * (i % 8))=((wrd x (i / 8) / 2 ^ (8 * (i % 8)):Nat):Int):=by simp
 rw [this];omega
set_option maxHeartbeats 800000 in
theorem b2u(x:Nat)(w:World):Calls Tryz.prog 36 #[w4 x] w fun e w'=>e= .returned (ab (le x 32))∧Kept [] w w':=by
 go_enter Tryz.func36,Tryz.ntmps36;go_wp2_with (first
  | ((with_reducible refine a0q (o:=⟨some 1,_,_,_,_,_⟩) (v:=w4 x) rfl (.tmp 0) rfl rfl ?_);intro g1 w1 m1)
  | ((with_reducible refine a0h (o:=⟨some 2,_,_,_,_,_⟩) rfl rfl a8l ?_);intro g2 w2 m2)
  | ((with_reducible refine a0h (o:=⟨some 3,_,_,_,_,_⟩) rfl rfl a8l ?_);intro g3 w3 m3))
 have N:=hjd (And.intro (m3.ne (m2.kept.lt m1.blk.lt)) (m3.ne m2.blk.lt));have b1:=hjd ((m1.blk.kept m2.kept (by simp)).kept m3.kept (by simp));have b2:=hjd (m2.blk.kept m3.kept (by simp));have b3:=hjd m3.blk;have M:=hjd (And.intro ((m1.kept.a0g m2.kept).a0g m3.kept) (And.intro (Nat.le_trans m1.kept.size m2.le) (Nat.le_trans (m1.kept.a0g m2.kept).size m3.le)));clear m1 m2 m3;go_loopg [5] 32 (fun f i wk=>∃k:Nat,k≤32∧f + k=32∧i= .int .i64 k∧Blk wk g3 22 (bv (a5y (a0m 32) 0 ((le x 32).take k))).toArray∧Kept [g3] w3 wk);case atStart=>exact⟨0,Nat.zero_le _,rfl,rfl,b3.out,Kept.refl _ _⟩
 case round=>
  obtain⟨k,hk,hf,rfl,hb,hkw⟩:=hrel;by_cases hlt:k < 32
  ·have hb1:Blk wr g1 78 (uv (ws4 x)).toArray:=b1.out.kept hkw (by simpa using N.out.1);have c1:=Blk.e4r hb1 (k / 8) (by omega);have hfz:=hb.frozen k;have c3:=hb.bget k (by rw [a8f _ _ _ (by simp [a0x];omega)];simpa using hlt);have hby:=c5q x k hlt;have hst:=hb.b3i k (a1z ((le x 32)[k]'(by rw [a0x];exact hlt)));rw [a9y (a0m 32) (le x 32) k (by rw [a0x];exact hlt) (by simp [a0x])]at hst;have hst2:=hjd hst;have hk2:=hjd (hkw.setCell (p:=⟨g3,k,none⟩) (.inl (by simp)) (a1z ((le x 32)[k]'(by rw [a0x];exact hlt))));unfold a1z at hst2 hk2;clear hst hb hkw hb1;go_wp2_with fail;go_roundg (32 - (k + 1));case measure=>omega
   case rel=>exact⟨k + 1,by omega,by omega,by go_num,hst2.out,hk2.out⟩
  ·obtain rfl:k=32:=by omega
   have hb2:=hjd hb;have hk2:=hjd hkw;clear hb hkw;rw [List.take_of_length_le (by rw [a0x];exact Nat.le_refl _),c0d _ _ (by rw [a0x];rfl)]at hb2;go_wp2_with (first
    | (refine a0t a2u rfl (.tmp 3) rfl rfl hb2.out (by simp [a0x]) ?_)
    | (refine a1p a2u rfl (.tmp 2) (.tmp 22) rfl rfl rfl (b2.out.kept hk2.out (by simpa using N.out.2)) rfl (by simp [a0x]) (a3o _) ?_;intro w5 b6 k6))
   exact a6l a2u rfl rfl b6 (by simp [a0x]) rfl ⟨rfl,(M.out.1.a0r hk2.out M.out.2.2).a0r k6 M.out.2.1⟩
theorem b5k(l:List UInt8):leV l < 2 ^ (8 * l.length):=by
 have:=b4g l
 rwa [show(256:Nat)=2 ^ 8 from rfl,←Nat.pow_mul]at this
theorem e6s(bs:List UInt8)(m:Nat)(h:bs.length=8 * m):val (wds (leV bs) m)=leV bs:=by
 rw [b9q];have:=b5k bs;rw [h,show 8 * (8 * m)=64 * m from by omega]at this;exact Nat.mod_eq_of_lt this
theorem c8g(v:Value)(bs:List UInt8)(n m:Nat)(w:World)(hl:bs.length=n)(hr:Rd w 1 v n (bv bs))(hm:n=8 * m)(hm8:m≤8) :
 Calls Tryz.prog 120 #[v] w fun e w'=>∃g,e= .returned (.slice (some ⟨g,0,none⟩) m m)∧Blk w' g 67 (uv (wds (leV bs) m)).toArray∧Kept [] w w'∧w.heap.size≤g:=by
 subst hl;exact d1x v bs m w hr hm hm8
theorem c7o(bs:List UInt8)(hl:bs.length=64)(w:World):Calls Tryz.prog 102 #[ab bs] w fun e w'=>e= .returned (w4 (leV bs % LL))∧Kept [] w w':=by
 have hl2:=hjd hl;have hlen:=hjd (show(bv bs).length=64 by simp [hl]);clear hl;go_enter Tryz.func102,Tryz.ntmps102;go_wp2_with (first
  | ((with_reducible refine a0q (o:=⟨some 1,_,_,_,_,_⟩) (v:=ab bs) rfl (.tmp 0) rfl rfl ?_);intro g1 w1 m1)
  | ((with_reducible refine a0h (o:=⟨some 2,_,_,_,_,_⟩) rfl rfl a8s ?_);intro g2 w2 m2))
 have hrd:Rd w2 1 (.slice (some ⟨g1,0,none⟩) 64 64) 64 (bv bs):=Blk.rd (m1.blk.kept m2.kept (by simp)) hlen.out (Nat.le_refl _);refine(c8g _ bs 64 8 _ hl2.out hrd rfl (by omega)).mono ?_;rintro e w3 ⟨g3,rfl,b3,k3,l3⟩;have hrd3:Rd w3 1 (.slice (some ⟨g3,0,none⟩) 8 8) (wds (leV bs) 8).length (uv (wds (leV bs) 8)):=Blk.rd b3 (by simp [d1r]) (Nat.le_refl _);have H:=hjd hrd3;have K:=hjd (And.intro m1 (And.intro m2 k3));clear hrd hrd3 b3 m1 m2 k3 l3;go_wp2_with (first
  | (go_at_call 106;refine(d4s _ _ 8 _ (d1r _ _) H.out (wds_lt _ _) (by omega)).mono ?_;rintro e w4 ⟨rfl,k4⟩;have b2:=(K.out.2.1.blk.kept K.out.2.2 (by simp)).kept k4 (by simp);have k5:=hjd k4;clear k4)
  | (refine a0a a1y rfl (.tmp 2) (.tmp 5) rfl rfl rfl b2 rfl rfl (a2e _) ?_;intro w7 b8 k8))
 refine a1m a1y rfl rfl b8 rfl rfl ⟨?_,?_⟩
 ·have e:val (wds (leV bs) 8)=leV bs:=e6s bs 8 hl2.out;rw [e]
 ·exact(((K.out.1.kept.a0g K.out.2.1.kept).a0g K.out.2.2).a0g k5.out).a0r k8 (Nat.le_trans K.out.1.kept.size K.out.2.1.le)
end Go.Proofs.YtdbngnlpafcogaaGreat.Z
namespace Go.Proofs.YtdbngnlpafcogaaGreat.Z
open Go.RowKit Go.Mem
theorem d3p(x y k:Nat)(hk:k < 4)(w:World):(callFunc 103 #[.int .u64 (wrd x k:Nat),.int .u64 (wrd y k:Nat),.int .u64 (car x y 0 k:Nat)]).run Tryz.prog w =
 .ok (.value (.tuple #[.int .u64 (wrd (x + y) k:Nat),.int .u64 (car x y 0 (k + 1):Nat)])) w:=by
 obtain⟨h1,h2⟩:=d8h x y 0 k hk (by omega);rw [a7x _ _ _ (car_le x y 0 k (by omega) (by omega)),h1,h2];rfl
theorem sum_lt{x y:Nat}(h:x < LL)(h2:y < LL):x + y < M4:=by
 have:2 * LL < M4:=by decide +kernel
 omega
set_option maxHeartbeats 800000 in
theorem e7f(x y:Nat)(hx:x < LL)(hy:y < LL)(w:World):Calls Tryz.prog 37 #[w4 x,w4 y] w fun e w'=>e= .returned (w4 ((x + y) % LL))∧Kept [] w w':=by
 have hs:=hjd (And.intro hx hy);clear hx hy;go_enter Tryz.func37,Tryz.ntmps37;go_wp2_with (first
  | ((with_reducible refine a0q (o:=⟨some 2,_,_,_,_,_⟩) (v:=w4 x) rfl (.tmp 0) rfl rfl ?_);intro g1 w1 m1)
  | ((with_reducible refine a0q (o:=⟨some 3,_,_,_,_,_⟩) (v:=w4 y) rfl (.tmp 1) rfl rfl ?_);intro g2 w2 m2)
  | ((with_reducible refine a0h (o:=⟨some 4,_,_,_,_,_⟩) rfl rfl a8s ?_);intro g3 w3 m3))
 have N:=hjd (And.intro (m2.ne m1.blk.lt) (And.intro (m3.ne (m2.kept.lt m1.blk.lt)) (m3.ne m2.blk.lt)));have b1:=hjd ((m1.blk.kept m2.kept (by simp)).kept m3.kept (by simp));have b2:=hjd (m2.blk.kept m3.kept (by simp));have b3:=hjd m3.blk;have M:=hjd (And.intro ((m1.kept.a0g m2.kept).a0g m3.kept) (And.intro m1.le (Nat.le_trans (m1.kept.a0g m2.kept).size m3.le)));clear m1 m2 m3;go_loopg [7,5] 4 (fun f i c wk=>∃k:Nat,k≤4∧f + k=4∧i= .int .i64 k∧c= .int .u64 (car x y 0 k:Nat)∧Blk wk g1 78 (uv (qw x (x + y) k)).toArray∧Kept [g1] w3 wk);case atStart=>exact⟨0,Nat.zero_le _,rfl,rfl,by rw [d9r];rfl,b1.out,Kept.refl _ _⟩
 case round=>
  obtain⟨k,hk,hf,rfl,rfl,hb,hkw⟩:=hrel;by_cases hlt:k < 4
  ·have c1:=d4a x (x + y) k hlt hb;have hb2:Blk wr g2 78 (uv (ws4 y)).toArray:=b2.out.kept hkw (by have:=N.out.1;simpa using Ne.symm this);have c2:=Blk.e4r hb2 k hlt;have hfz:=hb.frozen k;have hc:=d3p x y k hlt;have hst2:=hjd (d6x x (x + y) k hlt hb);have hk2:=hjd (hkw.setCell (p:=⟨g1,k,none⟩) (.inl (by simp)) (Value.int .u64 (wrd (x + y) k:Nat)));clear hb hkw hb2;go_wp2_with fail;refine Txt.a2g (by kernel_rfl) (by kernel_rfl) ?_;go_wp2_with fail;refine⟨rfl,by kernel_rfl,?_⟩;go_wp2_with fail;go_roundg (4 - (k + 1));case measure=>omega
   case rel=>exact⟨k + 1,by omega,by omega,by go_num,rfl,hst2.out.drew,hk2.out.drew⟩
  ·obtain rfl:k=4:=by omega
   have hb2:=hjd hb;have hk2:=hjd hkw;clear hb hkw;rw [qw4]at hb2;go_wp2_with (first
    | (refine a0t b6w rfl (.tmp 27) rfl rfl hb2.out rfl ?_)
    | (go_at_call 104;refine(b1b (x + y) (sum_lt hs.out.1 hs.out.2) _).mono ?_;rintro e w4 ⟨rfl,k4⟩;have k5:=hjd k4;clear k4)
    | (refine a3x rfl 0 (.tmp 29) rfl rfl (b9e _) ?_)
    | (refine a0a a1y rfl (.tmp 4) (.tmp 30) rfl rfl rfl ((b3.out.kept hk2.out (by have:=N.out.2.1;simpa using Ne.symm this)).kept k5.out (by simp)) rfl rfl (a2e _) ?_;intro w7 b8 k8))
   refine a1m a1y rfl rfl b8 rfl rfl ⟨?_,((M.out.1.a0r hk2.out M.out.2.1).a0g k5.out).a0r k8 M.out.2.2⟩;rw [d4n (by have:=hs.out;omega)]
end Go.Proofs.YtdbngnlpafcogaaGreat.Z
namespace Go.Proofs.YtdbngnlpafcogaaGreat.Z
open Go.RowKit Go.Mem
theorem c5a:∀(l:List Nat) (k v:Nat),k < l.length→val (l.set k v) + l.getD k 0 * 2 ^ (64 * k)=val l + v * 2 ^ (64 * k)
 | a :: l,0,v,_=>by simp [val];omega
 | a :: l,k + 1,v,h=>by
   have ih:=c5a l k v (by simpa using h);simp only [List.set_cons_succ,val,List.getD_cons_succ];rw [show 64 * (k + 1)=64 + 64 * k from by omega,Nat.pow_add];show a + 18446744073709551616 * val (l.set k v) + l.getD k 0 * (18446744073709551616 * 2 ^ (64 * k))=a + 18446744073709551616 * val l + v * (18446744073709551616 * 2 ^ (64 * k));rw [Nat.mul_left_comm,Nat.mul_left_comm v];omega
structure MulInv (x y i j c:Nat) (ts:List Nat):Prop where
 len:ts.length=8
 lt:∀z∈ts,z < 18446744073709551616
 clt:c < 18446744073709551616
 eq:val ts + c * 2 ^ (64 * (i + j))=(x % 2 ^ (64 * i)) * y + wrd x i * 2 ^ (64 * i) * (y % 2 ^ (64 * j))
 zero:∀k,i + 4≤k→ts.getD k 0=0
theorem d3s(x y:Nat):MulInv x y 0 0 0 (List.replicate 8 0):=
 ⟨rfl,by decide,by decide,by simp [Nat.mod_one];rfl,fun k _=>by
  simp only [List.getD_eq_getElem?_getD,List.getElem?_replicate];split <;> rfl⟩
theorem mod_succ(x k:Nat):x % 2 ^ (64 * (k + 1))=x % 2 ^ (64 * k) + 2 ^ (64 * k) * wrd x k:=by
 rw [show 64 * (k + 1)=64 * k + 64 from by omega,Nat.pow_add,Nat.mod_mul];rfl
theorem e0s{x y i j c:Nat}{ts:List Nat}(h:MulInv x y i j c ts)(hi:i < 4)(hj:j < 4){new c':Nat}(hn:new < 18446744073709551616)(hc:c' < 18446744073709551616)
 (he:new + 18446744073709551616 * c'=wrd x i * wrd y j + ts.getD (i + j) 0 + c):MulInv x y i (j + 1) c' (ts.set (i + j) new):=by
 refine⟨by rw [List.length_set];exact h.len,fun z hz=>?_,hc,?_,fun k hk=>?_⟩
 ·rcases List.mem_or_eq_of_mem_set hz with hz | rfl
  ·exact h.lt z hz
  ·exact hn
 ·have h1:=c5a ts (i + j) new (by rw [h.len];omega);have h2:=h.eq;have h3:2 ^ (64 * (i + (j + 1)))=18446744073709551616 * 2 ^ (64 * (i + j)):=by
   rw [show 64 * (i + (j + 1))=64 + 64 * (i + j)from by omega,Nat.pow_add]
  have h4:2 ^ (64 * (i + j))=2 ^ (64 * i) * 2 ^ (64 * j):=by rw [Nat.mul_add,Nat.pow_add]
  rw [h3,mod_succ y j];rw [h4]at h1 h2 ⊢;generalize ts.getD (i + j) 0=u at *;generalize 2 ^ (64 * i)=P at *;generalize 2 ^ (64 * j)=Q at *;generalize val (ts.set (i + j) new)=V' at *;generalize val ts=V at *;generalize wrd x i=a at *;generalize wrd y j=b at *;generalize x % P=X at *;generalize y % Q=Y at *;have h5:(new + 18446744073709551616 * c') * (P * Q)=(a * b + u + c) * (P * Q):=by rw [he]
  grind
 ·rw [List.getD_eq_getElem?_getD,List.getElem?_set_ne (by omega),←List.getD_eq_getElem?_getD];exact h.zero k hk
theorem e5u{x y i c:Nat}{ts:List Nat}(h:MulInv x y i 4 c ts)(hi:i < 4)(hy:y < M4):MulInv x y (i + 1) 0 0 (ts.set (i + 4) c):=by
 refine⟨by rw [List.length_set];exact h.len,fun z hz=>?_,by decide,?_,fun k hk=>?_⟩
 ·rcases List.mem_or_eq_of_mem_set hz with hz | rfl
  ·exact h.lt z hz
  ·exact h.clt
 ·have h1:=c5a ts (i + 4) c (by rw [h.len];omega);rw [h.zero (i + 4) (Nat.le_refl _),Nat.zero_mul,Nat.add_zero]at h1;have h2:=h.eq;have h3:y % 2 ^ (64 * 4)=y:=Nat.mod_eq_of_lt hy;rw [h3]at h2;rw [h1,h2,mod_succ x i,Nat.mul_zero,Nat.pow_zero,Nat.mod_one,Nat.mul_zero,Nat.zero_mul,Nat.add_zero,Nat.add_zero,Nat.add_mul,Nat.mul_comm (2 ^ (64 * i))]
 ·rw [List.getD_eq_getElem?_getD,List.getElem?_set_ne (by omega),←List.getD_eq_getElem?_getD];exact h.zero k (by omega)
theorem e4c{x y:Nat}{ts:List Nat}(h:MulInv x y 4 0 0 ts)(hx:x < M4):val ts=x * y:=by
 have h2:=h.eq;have h3:x % 2 ^ (64 * 4)=x:=Nat.mod_eq_of_lt hx;rw [h3]at h2;simpa [Nat.mod_one]using h2
theorem d3d(a b u c:Nat)(ha:a < 18446744073709551616)(hb:b < 18446744073709551616)(hu:u < 18446744073709551616)(hc:c < 18446744073709551616) :
 ∃hi lo lo1 c1 lo2 c2,hi=a * b / 18446744073709551616∧lo=a * b % 18446744073709551616∧lo1=(lo + u) % 18446744073709551616∧c1=(lo + u) / 18446744073709551616∧lo2=(lo1 + c) % 18446744073709551616∧c2=(lo1 + c) / 18446744073709551616∧
  hi + c1≤18446744073709551615∧hi + c1 + c2≤18446744073709551615∧lo2 < 18446744073709551616∧lo2 + 18446744073709551616 * (hi + c1 + c2)=a * b + u + c:=by
 refine⟨_,_,_,_,_,_,rfl,rfl,rfl,rfl,rfl,rfl,?_⟩;have h:a * b≤18446744073709551615 * 18446744073709551615:=Nat.mul_le_mul (by omega) (by omega);generalize a * b=p at *;omega
theorem c2c(x y:Nat)(w:World):(callFunc 103 #[.int .u64 x,.int .u64 y,.int .u64 0]).run Tryz.prog w =
 .ok (.value (.tuple #[.int .u64 ((x + y) % 18446744073709551616:Nat),.int .u64 ((x + y) / 18446744073709551616:Nat)])) w:=a7x x y 0 (by omega) w
theorem zero8:(Tryz.prog.info? 155).map (·.zero)=some (some (.agg (uv (List.replicate 8 0)).toArray)):=by kernel_rfl
set_option maxHeartbeats 1600000 in
theorem c4k(x y:Nat)(hx:x < M4)(hy:y < M4)(w:World):Calls Tryz.prog 38 #[w4 x,w4 y] w fun e w'=>e= .returned (w4 (x * y % LL))∧Kept [] w w':=by
 have hs:=hjd (And.intro hx hy);clear hx hy;go_enter Tryz.func38,Tryz.ntmps38;go_wp2_with (first
  | ((with_reducible refine a0q (o:=⟨some 2,_,_,_,_,_⟩) (v:=w4 x) rfl (.tmp 0) rfl rfl ?_);intro g1 w1 m1)
  | ((with_reducible refine a0q (o:=⟨some 3,_,_,_,_,_⟩) (v:=w4 y) rfl (.tmp 1) rfl rfl ?_);intro g2 w2 m2)
  | ((with_reducible refine a0h (o:=⟨some 4,_,_,_,_,_⟩) rfl rfl a8s ?_);intro g3 w3 m3)
  | ((with_reducible refine a0h (o:=⟨some 5,_,_,_,_,_⟩) rfl rfl zero8 ?_);intro g4 w4 m4)
  | (refine a0t b6w rfl (.tmp 14) rfl rfl (((m1.blk.kept m2.kept (by simp)).kept m3.kept (by simp)).kept m4.kept (by simp)) rfl ?_))
 have N:=hjd (And.intro (m4.ne (m3.kept.lt (m2.kept.lt m1.blk.lt))) (And.intro (m4.ne (m3.kept.lt m2.blk.lt)) (m4.ne m3.blk.lt)));have b2:=hjd ((m2.blk.kept m3.kept (by simp)).kept m4.kept (by simp));have b3:=hjd (m3.blk.kept m4.kept (by simp));have b4:=hjd m4.blk;have M:=hjd (And.intro (((m1.kept.a0g m2.kept).a0g m3.kept).a0g m4.kept) (And.intro (Nat.le_trans (m1.kept.a0g m2.kept).size m3.le) (Nat.le_trans ((m1.kept.a0g m2.kept).a0g m3.kept).size m4.le)));clear m1 m2 m3 m4;go_loopg [16] 4 (fun f i wk=>∃(k:Nat) (ts:List Nat),k≤4∧f + k=4∧i= .int .i64 k∧MulInv x y k 0 0 ts∧Blk wk g4 155 (uv ts).toArray∧Kept [g4] w4 wk);case atStart=>exact⟨0,_,Nat.zero_le _,rfl,rfl,d3s x y,b4.out,Kept.refl _ _⟩
 case round=>
  obtain⟨k,ts,hk,hf,rfl,hI,hb,hkw⟩:=hrel;by_cases hlt:k < 4
  ·have hix:=a9q x k hlt;have hI2:=hjd hI;have hb2:=hjd hb;have hk2:=hjd hkw;clear hI hb hkw;go_wp2_with (refine a0t b6w rfl (.tmp 20) rfl rfl (b2.out.kept hk2.out (by have:=N.out.2.1;simpa using this)) rfl ?_);obtain⟨wo,rfl⟩:∃wo:World,wo=wr:=⟨_,rfl⟩;go_loopg [22,8] 4 (fun f i cv wk=>∃(j c:Nat) (us:List Nat),j≤4∧f + j=4∧i= .int .i64 j∧cv= .int .u64 c∧MulInv x y k j c us∧Blk wk g4 155 (uv us).toArray∧Kept [g4] wo wk);case atStart=>exact⟨0,0,ts,Nat.zero_le _,rfl,rfl,rfl,hI2.out,hb2.out,Kept.refl _ _⟩
   case round=>
    obtain⟨j,c,us,hj,hf2,rfl,rfl,hJ,hbj,hkj⟩:=hrel;by_cases hlj:j < 4
    ·have hiy:=a9q y j hlj;have hlen:=hJ.len;have hkj8:k + j < us.length:=by rw [hlen];omega
     have c1:=hbj.uget (k + j) hkj8;have hg:us.getD (k + j) 0=us[k + j]:=by simp [hkj8]
     obtain⟨hi,lo,lo1,q1,lo2,q2,e1,e2,e3,e4,e5,e6,e7,e8,e9,e10⟩:=d3d (wrd x k) (wrd y j) us[k + j] c (a6d _ _) (a6d _ _) (hJ.lt _ (List.getElem_mem _)) hJ.clt;have hm:=c3c (wrd x k) (wrd y j) (a6d _ _) (a6d _ _);rw [←e1,←e2]at hm;have ha1:=c2c lo us[k + j];rw [←e3,←e4]at ha1;have ha2:=c2c lo1 c;rw [←e5,←e6]at ha2;have hst:=e0s (c':=hi + q1 + q2) hJ hlt hlj e9 (by omega) (by rw [hg];exact e10);have hfz:=hbj.frozen (k + j);have hbs:=hbj.b3i (k + j) (.int .u64 (lo2:Nat));have es:(uv us).toArray.setIfInBounds (k + j) (.int .u64 (lo2:Nat))=(uv (us.set (k + j) lo2)).toArray:=by simp
     rw [es]at hbs;have hm2:=hjd hm;have H:=hjd (And.intro hst (And.intro hbs (hkj.setCell (p:=⟨g4,k + j,none⟩) (.inl (by simp)) (Value.int .u64 (lo2:Nat)))));clear hm hst hbs hkj hbj hJ e1 e2 e3 e4 e5 e6 e10 es hg hlen;go_wp2_with (go_at_call 105;refine(hm2.out _).mono ?_;rintro e w6 ⟨rfl,rfl⟩);go_roundg (4 - (j + 1));case measure=>omega
     case rel=>exact⟨j + 1,hi + q1 + q2,_,by omega,by omega,by go_num,by go_num,H.out.1,H.out.2.1,H.out.2.2⟩
    ·obtain rfl:j=4:=by omega
     have hk8:k + 4 < us.length:=by rw [hJ.len];omega
     have c1:=hbj.uget (k + 4) hk8;have hfz:=hbj.frozen (k + 4);have hbs:=hbj.b3i (k + 4) (.int .u64 (c:Nat));have es:(uv us).toArray.setIfInBounds (k + 4) (.int .u64 (c:Nat))=(uv (us.set (k + 4) c)).toArray:=by simp
     rw [es]at hbs;have H:=hjd (And.intro (e5u hJ hlt hs.out.2) (And.intro hbs (hkj.setCell (p:=⟨g4,k + 4,none⟩) (.inl (by simp)) (Value.int .u64 (c:Nat)))));clear hbs hkj hbj hJ es;go_wp2_with fail;go_roundg (4 - (k + 1));case measure=>omega
     case rel=>exact⟨k + 1,_,by omega,by omega,by go_num,H.out.1,H.out.2.1,hk2.out.trans' H.out.2.2⟩
  ·obtain rfl:k=4:=by omega
   have hv:=hjd (e4c hI hs.out.1);have hlen:=hI.len;have hrd:Rd wr 1 (.slice (some ⟨g4,0,none⟩) 8 8) ts.length (uv ts):=by
    rw [hlen];exact hb.rd (by simp [hlen]) (Nat.le_refl _)
   have H:=hjd (And.intro hI hrd);have hl2:=hjd hlen;have hk2:=hjd hkw;clear hI hb hkw hlen hrd;go_wp2_with (first
    | (go_at_call 106;refine(d4s _ ts 8 _ hl2.out H.out.2 H.out.1.lt (by omega)).mono ?_;rintro e w6 ⟨rfl,k6⟩;have k7:=hjd k6;clear k6)
    | (refine a0a a1y rfl (.tmp 4) (.tmp 66) rfl rfl rfl ((b3.out.kept hk2.out (by have:=N.out.2.2;simpa using this)).kept k7.out (by simp)) rfl rfl (a2e _) ?_;intro w7 b8 k8))
   refine a1m a1y rfl rfl b8 rfl rfl ⟨?_,((M.out.1.a0r hk2.out M.out.2.2).a0g k7.out).a0r k8 M.out.2.1⟩;rw [hv.out]
end Go.Proofs.YtdbngnlpafcogaaGreat.Z
