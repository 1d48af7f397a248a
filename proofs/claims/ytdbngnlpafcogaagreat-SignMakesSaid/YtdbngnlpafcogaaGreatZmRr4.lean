/-
  The document's field: powers: the plain law.
  The document's field: powers: the walk.
  The document's curve: digits stand for numbers modulo p; cells of its points.
  The document's curve: its functions.
  The document's curve: its functions.
  The document's curve: its functions.
  The document's curve: small points, multiples.
-/
import Derived.Test.YtdbngnlpafcogaaGreatZmRf8
set_option maxRecDepth 100000
namespace Go.Proofs.YtdbngnlpafcogaaGreat
open Go.RowKit Go.Mem Go.Txt
theorem e2z:∀E:Nat,0 < E→∃z m,E=2 ^ z * (2 * m + 1):=fun E=>by
 induction E using Nat.strongRecOn with
 | ind E ih=>
   intro h
   rcases Nat.mod_two_eq_zero_or_one E with h2 | h2
   ·obtain⟨z,m,e⟩:=ih (E / 2) (by omega) (by omega)
    exact⟨z + 1,m,by rw [Nat.pow_succ,Nat.mul_comm (2 ^ z) 2,Nat.mul_assoc,←e];omega⟩
   ·exact⟨0,E / 2,by rw [Nat.pow_zero];omega⟩
theorem d8q(z m j:Nat):(2 ^ z * (2 * m + 1) - 1).testBit j=if j < z then true else if j=z then false else(2 ^ z * (2 * m + 1)).testBit j:=by
 have hp:0 < 2 ^ z:=Nat.two_pow_pos z
 have e:2 ^ z * (2 * m + 1) - 1=2 ^ z * (2 * m) + (2 ^ z - 1):=by rw [Nat.mul_add,Nat.mul_one];omega
 have e2:2 ^ z * (2 * m + 1)=2 ^ z * (2 * m + 1) + 0:=rfl
 rw [e,Nat.testBit_two_pow_mul_add _ (by omega),e2,Nat.testBit_two_pow_mul_add _ hp]
 by_cases h:j < z
 ·rw [if_pos h,if_pos h,Nat.testBit_two_pow_sub_one]
  simpa using h
 ·rw [if_neg h,if_neg h]
  by_cases h2:j=z
  ·rw [if_pos h2,h2,Nat.sub_self,Nat.testBit_zero]
   simp
  ·rw [if_neg h2,if_neg h]
   obtain⟨q,hq⟩:∃q,j - z=q + 1:=⟨j - z - 1,by omega⟩
   rw [hq,Nat.testBit_succ,Nat.testBit_succ]
   congr 1
   omega
theorem bit_at(z m:Nat):(2 ^ z * (2 * m + 1)).testBit z=true:=by
 rw [show 2 ^ z * (2 * m + 1)=2 ^ z * (2 * m + 1) + 0 from rfl,Nat.testBit_two_pow_mul_add _ (Nat.two_pow_pos z),if_neg (by omega),Nat.sub_self,Nat.testBit_zero]
 simp
theorem d3o(z m j:Nat)(h:j < z):(2 ^ z * (2 * m + 1)).testBit j=false:=by
 rw [show 2 ^ z * (2 * m + 1)=2 ^ z * (2 * m + 1) + 0 from rfl,Nat.testBit_two_pow_mul_add _ (Nat.two_pow_pos z),if_pos h]
 simp
theorem bit_le{z m n:Nat}(h:2 ^ z * (2 * m + 1)≤2 ^ n):z≤n:=by
 rcases Nat.lt_or_ge n z with h1 | h1
 ·have:=Nat.pow_lt_pow_right (show 1 < 2 by omega) h1
  have h2:2 ^ z * 1≤2 ^ z * (2 * m + 1):=Nat.mul_le_mul_left _ (by omega)
  omega
 ·exact h1
theorem d6m(E m:Nat)(h:0 < m):E / 2 ^ (m - 1)=2 * (E / 2 ^ m) + (if E.testBit (m - 1)then 1 else 0):=by
 obtain⟨q,rfl⟩:∃q,m=q + 1:=⟨m - 1,by omega⟩
 rw [Nat.add_sub_cancel,Nat.pow_succ,←Nat.div_div_eq_div_mul]
 have:E.testBit q=decide (E / 2 ^ q % 2=1):=by rw [Nat.testBit_eq_decide_div_mod_eq]
 rw [this]
 generalize E / 2 ^ q=x
 by_cases hx:x % 2=1
 ·rw [decide_eq_true hx,if_pos rfl];omega
 ·rw [decide_eq_false hx,if_neg (by simp)];omega
structure Dr (d:Nat→Int) (x:Nat):Prop where
 sm:Sm 70000 d
 val:dv d 16 % PZ=((x % PP:Nat):Int)
theorem Dr.mu{a b:Nat→Int}{x y:Nat}(h:Dr a x)(h2:Dr b y):Dr (muN a b) (x * y):=by
 refine⟨muN_sm h.sm h2.sm,?_⟩
 rw [c1m,Int.mul_emod,h.val,h2.val,b8m,←Int.natCast_mul,←Int.natCast_emod,←Nat.mul_mod]
theorem e1i(x:Nat)(h:x < 65536 ^ 16):Dr (dgN x) x:=by
 refine⟨(dgN_sm x).le (by omega),?_⟩
 rw [e0q,Nat.mod_eq_of_lt h,b8m]
 rfl
theorem d5z(a X m:Nat)(h:0 < m):a ^ (X / 2 ^ (m - 1))=if X.testBit (m - 1)then a ^ (X / 2 ^ m) * a ^ (X / 2 ^ m) * a else a ^ (X / 2 ^ m) * a ^ (X / 2 ^ m):=by
 rw [d6m X m h]
 split
 ·rw [Nat.pow_succ,Nat.two_mul,Nat.pow_add]
 ·rw [Nat.add_zero,Nat.two_mul,Nat.pow_add]
theorem e4p(k:Nat):madeCells #[.bool false] k=((fam k (fun _=>false)).map Value.bool).toArray:=by
 apply Array.toList_inj.1
 rw [a6u]
 unfold fam
 simp
 apply List.ext_getElem
 ·simp
 ·intro i h1 h2
  simp
end Go.Proofs.YtdbngnlpafcogaaGreat
namespace Go.Proofs.YtdbngnlpafcogaaGreat
open Go.RowKit Go.Mem Go.Txt
theorem boolT:SliceT Tryz.prog 221 4 1 1 (.bool false):=⟨Tryz.underlying221,by kernel_rfl,rfl,by omega⟩
abbrev Eb(u:World)(g N:Nat)(f:Nat→Bool):Prop:=Blk u g 4 ((fam N f).map Value.bool).toArray
theorem Eb.get{u:World}{g N:Nat}{f:Nat→Bool}(h:Eb u g N f)(i:Nat)(hi:i < N):u.cell? ⟨g,i,none⟩=some (.bool (f i)):=Blk.a7r (v:=Value.bool) h i hi
theorem Eb.same{u:World}{g N:Nat}{f f':Nat→Bool}(h:Eb u g N f)(he:∀i,i < N→f i=f' i):Eb u g N f':=by
 have:=a3z N he
 unfold Eb at h ⊢
 rwa [this]at h
theorem e1w(N:Nat)(h:N≤2000):∃Z:Array Value,Z=((fam N (fun _=>false)).map Value.bool).toArray∧∀W:World,(Instr.makeSlice 221 (.int .i64 N) (.int .i64 N)).run Tryz.prog W= .ok (.slice (some ⟨W.heap.size,0,none⟩) N N) (W.alloc (.cells Z 4)):=by
 refine⟨madeCells #[.bool false] N,e4p N,fun W=>?_⟩
 exact run_mk boolT N (by omega) (by omega) W
def pwd(a:Nat→Int)(X N:Nat):Nat→Nat→Int
 | 0=>dgN 1
 | c + 1=>if X.testBit (N - c - 1)then muN (muN (pwd a X N c) (pwd a X N c)) a else muN (pwd a X N c) (pwd a X N c)
structure Db (d:Nat→Int) (x:Nat):Prop where
 sm:Sm 280000 d
 val:dv d 16 % PZ=((x % PP:Nat):Int)
theorem Dr.b{d:Nat→Int}{x:Nat}(h:Dr d x):Db d x:=⟨h.sm.le (by omega),h.val⟩
theorem Dr.mub{a b:Nat→Int}{x y:Nat}(h:Dr a x)(h2:Db b y):Dr (muN a b) (x * y):=by
 refine⟨c1q (h.sm.le (by omega)) h2.sm,?_⟩
 rw [c1m,Int.mul_emod,h.val,h2.val,b8m,←Int.natCast_mul,←Int.natCast_emod,←Nat.mul_mod]
theorem c9k{a:Nat→Int}{A X N:Nat}(ha:Db a A)(hX:X < 2 ^ N):∀c,c≤N→Dr (pwd a X N c) (A ^ (X / 2 ^ (N - c)))
 | 0,_=>by rw [Nat.sub_zero,Nat.div_eq_of_lt hX];exact e1i 1 (by decide)
 | c + 1,h=>by
   have ih:=c9k ha hX c (by omega)
   have hs:=d5z A X (N - c) (by omega)
   rw [show N - (c + 1)=N - c - 1 from by omega,hs,pwd]
   split
   ·exact(ih.mu ih).mub ha
   ·exact ih.mu ih
def powN(a:Nat→Int)(n less:Nat):Nat→Int:=pwd a (2 ^ n - less) (n + 1) (n + 1)
theorem e2r{a:Nat→Int}{A:Nat}(ha:Db a A)(n less:Nat):Dr (powN a n less) (A ^ (2 ^ n - less)):=by
 have:=c9k (X:=2 ^ n - less) (N:=n + 1) ha (Nat.lt_of_le_of_lt (Nat.sub_le _ _) (Nat.pow_lt_pow_right (by omega) (by omega))) (n + 1) (Nat.le_refl _)
 rwa [Nat.sub_self,Nat.pow_zero,Nat.div_one]at this
structure PwM (w0:World) (g3 g6 ge:Nat) (a:Nat→Int) (N:Nat) (f:Nat→Bool) (u:World):Prop where
 a:Nb u g3 a
 r:Nb u g6 zd
 e:Eb u ge N f
 k:Kept [] w0 u
structure PwF (w0:World) (g3 g6 ge:Nat):Prop where
 n3:g3≠ge
 n6:g6≠ge
 le:w0.heap.size≤ge
 l6:w0.heap.size≤g6
theorem PwM.kept{w0:World}{g3 g6 ge:Nat}{a:Nat→Int}{N:Nat}{f:Nat→Bool}{u u':World}(h:PwM w0 g3 g6 ge a N f u)(hk:Kept [] u u'):PwM w0 g3 g6 ge a N f u':=
 ⟨Blk.kept h.a hk (by simp),Blk.kept h.r hk (by simp),Blk.kept h.e hk (by simp),h.k.a0i hk⟩
theorem PwM.a6m{w0:World}{g3 g6 ge:Nat}{a:Nat→Int}{N:Nat}{f:Nat→Bool}{u:World}(h:PwM w0 g3 g6 ge a N f u)(n:PwF w0 g3 g6 ge)(i:Nat)(b:Bool):PwM w0 g3 g6 ge a N (fun j=>if j=i then b else f j) (u.setCell ⟨ge,i,none⟩ (.bool b)):=
 have hk:Kept [ge] u (u.setCell ⟨ge,i,none⟩ (.bool b)):=(Kept.refl [ge] u).setCell (.inl (by simp)) _
 ⟨Blk.kept h.a hk (by simpa using n.n3),Blk.kept h.r hk (by simpa using n.n6),Blk.d4c (v:=Value.bool) h.e i b,h.k.a0n hk n.le⟩
theorem PwM.same{w0:World}{g3 g6 ge:Nat}{a:Nat→Int}{N:Nat}{f f':Nat→Bool}{u:World}(h:PwM w0 g3 g6 ge a N f u)(he:∀i,i < N→f i=f' i):PwM w0 g3 g6 ge a N f' u:=⟨h.a,h.r,Eb.same h.e he,h.k⟩
theorem PwM.lt{w0:World}{g3 g6 ge:Nat}{a:Nat→Int}{N:Nat}{f:Nat→Bool}{u:World}(h:PwM w0 g3 g6 ge a N f u):g3 < u.heap.size∧g6 < u.heap.size∧ge < u.heap.size:=⟨Blk.lt h.a,Blk.lt h.r,Blk.lt h.e⟩
set_option maxHeartbeats 4000000 in
theorem d3q(a:Nat→Int)(A n less:Nat)(ha:Db a A)(hn:n≤1000)(hl:less≤2 ^ n)(hl2:less < 1000)(w:World) :
 Calls Tryz.prog 151 #[nu a,.int .i64 n,.int .u64 less] w fun e w'=>e= .returned (nu (powN a n less))∧Kept [] w w':=by
 unfold powN
 obtain⟨N,hN⟩:∃N:Nat,N=n + 1:=⟨_,rfl⟩
 rw [←hN]
 have eN:(n:Int) + 1=(N:Int):=by omega
 have lN:n < N:=by omega
 have lN2:N≤1001:=by omega
 obtain⟨Z,hZ,hmk⟩:=e1w N (by omega)
 have hZh:=hjd hZ
 have haH:=hjd ha
 have hlH:=hjd hl
 have hNH:=hjd hN
 have c1:=hjd (show∀W,Calls Tryz.prog 86 #[.int .u64 1] W fun e w'=>e= .returned (nu (dgN 1))∧Kept [] W w' from fun W=>e1d 1 (by omega) W)
 clear ha hl hN hZ
 go_enter Tryz.func151,Tryz.ntmps151
 go_wp2_with (first
  | ((with_reducible refine a0m (o:=⟨some 3,_,_,_,_,_⟩) (v:=nu a) rfl (.tmp 0) rfl rfl ?_);intro g3 w3 m3)
  | ((with_reducible refine a0f (o:=⟨some 6,_,_,_,_,_⟩) rfl rfl a2i ?_);intro g6 w6 m6;have E0:Eb (w6.alloc (.cells Z 4)) w6.heap.size N (fun _=>false):=(by rw [hZh.out];exact Blk.new _ _ _);have e0:=E0.get n lN;have z0:=Blk.frozen E0 n))
 have ak:Kept [] w6 (w6.alloc (.cells Z 4)):=(Kept.refl [] w6).alloc _
 have P:=hjd (show PwF w g3 g6 w6.heap.size from⟨fun h=>by have:=(m3.blk.kept m6.kept (by simp)).lt;omega,fun h=>by have:=m6.blk.lt;omega,(m3.kept.a0i m6.kept).size,Nat.le_trans m3.kept.size m6.le⟩)
 have M0:=hjd (show PwM w g3 g6 w6.heap.size a N ((2 ^ n - 0).testBit) ((w6.alloc (.cells Z 4)).setCell ⟨w6.heap.size,n,none⟩ (.bool true))from
  (PwM.a6m (f:=fun _=>false) ⟨(m3.blk.kept m6.kept (by simp)).kept ak (by simp),m6.blk.kept ak (by simp),E0,(m3.kept.a0i m6.kept).a0i ak⟩ P.out n true).same fun i _=>by
    rw [Nat.sub_zero,Nat.testBit_two_pow]
    by_cases h:i=n
    ·rw [if_pos h,h];simp
    ·rw [if_neg h];exact(decide_eq_false (fun e=>h e.symm)).symm)
 clear m3 m6 E0 e0 z0 ak
 rw [show(w6.alloc (.cells Z 4)).setCell ⟨w6.heap.size,n,none⟩ (.bool true)=w6.alloc (.cells (Z.setIfInBounds n (.bool true)) 4)from World.setCell_alloc_new _ _ _ _]at M0
 generalize w6.alloc (.cells (Z.setIfInBounds n (.bool true)) 4)=wb at *
 generalize w6.heap.size=ge at *
 go_loopg [8] less (fun f i wk=>∃j:Nat,j≤less∧f + j=less∧i= .int .u64 (j:Int)∧PwM w g3 g6 ge a N ((2 ^ n - j).testBit) wk)
 case atStart=>exact⟨0,Nat.zero_le _,rfl,rfl,M0.out⟩
 case round=>
  obtain⟨j,hj,hf,rfl,hb⟩:=hrel
  have H:=hjd hb
  clear hb
  by_cases hlt:j < less
  ·obtain⟨E,hE⟩:∃E,E=2 ^ n - j:=⟨_,rfl⟩
   have hE0:0 < E:=by have:=hlH.out;omega
   have hnext:2 ^ n - (j + 1)=E - 1:=by omega
   obtain⟨z,m,hzm⟩:=e2z E hE0
   have hzn:z≤n:=bit_le (z:=z) (m:=m) (n:=n) (by omega)
   rw [←hE]at H
   replace hE:=hjd hE
   replace hzm:=hjd hzm
   replace hnext:=hjd hnext
   go_wp2_with fail
   go_loopg [9] z (fun f i wk=>∃q:Nat,q≤z∧f + q=z∧i= .int .i64 (q:Int)∧PwM w g3 g6 ge a N (fun i=>if i < q then true else E.testBit i) wk)
   case atStart=>exact⟨0,Nat.zero_le _,rfl,rfl,H.out.same fun i _=>(if_neg (by omega)).symm⟩
   case round=>
    obtain⟨q,hq,hf2,rfl,hb⟩:=hrel
    have H2:=hjd hb
    clear hb
    have c0:=H2.out.e.get q (by omega)
    rw [if_neg (by omega)]at c0
    have z0:=Blk.frozen H2.out.e q
    by_cases hlt2:q < z
    ·rw [hzm.out,d3o z m q hlt2]at c0
     have F:=hjd (show PwM w g3 g6 ge a N (fun i=>if i < q + 1 then true else E.testBit i) (wr.setCell ⟨ge,q,none⟩ (.bool true))from(H2.out.a6m P.out q true).same fun i _=>by
      by_cases h:i=q
      ·rw [if_pos h,if_pos (by omega)]
      ·rw [if_neg h]
       by_cases h2:i < q
       ·rw [if_pos h2,if_pos (by omega)]
       ·rw [if_neg h2,if_neg (by omega)])
     go_wp2_with fail
     go_roundg (z - (q + 1))
     case measure=>omega
     case rel=>exact⟨q + 1,by omega,by omega,by go_num,F.out⟩
    ·obtain rfl:q=z:=by omega
     have hbt:=bit_at q m
     rw [←hzm.out]at hbt
     rw [hbt]at c0
     have F:=hjd (show PwM w g3 g6 ge a N ((2 ^ n - (j + 1)).testBit) (wr.setCell ⟨ge,q,none⟩ (.bool false))from(H2.out.a6m P.out q false).same fun i _=>by
      have:=d8q q m i
      rw [←hzm.out]at this
      rw [hnext.out,this]
      by_cases h:i=q
      ·rw [if_pos h,if_neg (by omega),if_pos h]
      ·rw [if_neg h]
       by_cases h2:i < q
       ·rw [if_pos h2,if_pos h2]
       ·rw [if_neg h2,if_neg h2,if_neg h])
     clear hbt
     go_wp2_with fail
     go_roundg (less - (j + 1))
     case measure=>omega
     case rel=>exact⟨j + 1,by omega,by omega,by go_num,F.out⟩
  ·obtain rfl:j=less:=by omega
   clear hlt M0
   go_wp2_with (first
    | (go_at_call 86;(with_reducible refine(c1.out _).mono ?_);rintro e x1 ⟨rfl,kk1⟩)
    | ((with_reducible refine a0f (o:=⟨some 10,_,_,_,_,_⟩) rfl rfl a2i ?_);intro g10 w10 m10)
    | ((with_reducible refine a0b (o:=⟨none,.store 27 (.tmp 10) (.tmp 36),_,_,_,_⟩) a1c.row rfl (.tmp 10) (.tmp 36) rfl rfl rfl m10.blk rfl rfl (a1j _) ?_);intro v10 b10 k10))
   have hx:=(H.out.kept kk1).lt
   have G:=hjd (show g3≠g10∧g6≠g10∧ge≠g10∧w.heap.size≤g10 from⟨m10.ne hx.1,m10.ne hx.2.1,m10.ne hx.2.2,Nat.le_trans (H.out.kept kk1).k.size m10.le⟩)
   have HM:=hjd (show PwM w g3 g6 ge a N ((2 ^ n - j).testBit) v10 from by
    have h:=(H.out.kept kk1).kept m10.kept
    exact⟨Blk.kept h.a k10 (by simpa using G.out.1),Blk.kept h.r k10 (by simpa using G.out.2.1),Blk.kept h.e k10 (by simpa using G.out.2.2.1),h.k.a0n k10 G.out.2.2.2⟩)
   have R0:=hjd (show Nb v10 g10 (dgN 1)from b10)
   clear kk1 m10 b10 k10 hx H
   obtain⟨X,hX⟩:∃X,X=2 ^ n - j:=⟨_,rfl⟩
   have hX0:X < 2 ^ N:=(by rw [hX,hNH.out];exact Nat.lt_of_le_of_lt (Nat.sub_le _ _) (Nat.pow_lt_pow_right (by omega) (by omega)))
   rw [←hX]at HM
   replace hX:=hjd hX
   replace hX0:=hjd hX0
   clear hlH
   go_loopg [11] N (fun f i wk=>∃m:Nat,f=m∧m≤N∧i= .int .i64 ((m:Int) - 1)∧∃d,d=pwd a X N (N - m)∧Nb wk g10 d∧Kept [g10] v10 wk)
   case atStart=>exact⟨N,rfl,Nat.le_refl _,by rw [←eN];go_num,dgN 1,by rw [Nat.sub_self];rfl,R0.out,Kept.refl _ _⟩
   case round=>
    obtain⟨m,hf3,hm,rfl,d,hd,hb,hkw⟩:=hrel
    have hde:=hjd hd
    have hdH:=hjd (show Dr d (A ^ (X / 2 ^ m))from by have:=c9k haH.out hX0.out (N - m) (by omega);rwa [←hd,show N - (N - m)=m from by omega]at this)
    have H:=hjd hb
    have HK:=hjd hkw
    clear hd hb hkw
    by_cases hm0:0 < m
    ·have hi0:(0:Int)≤(m:Int) - 1:=by omega
     have hi1:(1:Int)≤(m:Int):=by omega
     have hst:=hjd (show pwd a X N (N - (m - 1))=if X.testBit (m - 1)then muN (muN d d) a else muN d d from by rw [show N - (m - 1)=(N - m) + 1 from by omega,pwd,←hde.out,show N - (N - m) - 1=m - 1 from by omega])
     have cm:=hjd (b6z d d hdH.out.sm hdH.out.sm)
     have hsq:=hjd (hdH.out.mu hdH.out)
     have cm2:=hjd (b6y (muN d d) a (hsq.out.sm.le (by omega)) haH.out.sm)
     by_cases hbt:X.testBit (m - 1)=true
     ·replace hbt:=hjd hbt
      go_wp2_with (first
       | (with_reducible refine a0a (o:=⟨some 42,_,_,_,_,_⟩) a1c.row rfl (.tmp 10) rfl rfl H.out rfl ?_)
       | (with_reducible refine a0a (o:=⟨some 43,_,_,_,_,_⟩) a1c.row rfl (.tmp 10) rfl rfl H.out rfl ?_)
       | (go_at_call 84;(with_reducible refine(cm.out _).mono ?_);rintro e y1 ⟨rfl,kk1⟩)
       | ((with_reducible refine a0b (o:=⟨none,.store 27 (.tmp 10) (.tmp 44),_,_,_,_⟩) a1c.row rfl (.tmp 10) (.tmp 44) rfl rfl rfl (Blk.kept H.out kk1 (by simp)) rfl rfl (a1j _) ?_);intro v5 b5 k5;have KK:=hjd ((HK.out.a0i kk1).trans k5 (fun _ _ h=>h) (fun _ _ h=>h));have c0:=Eb.get (Blk.kept HM.out.e KK.out (by simpa using G.out.2.2.1)) (m - 1) (by omega);rw [hbt.out]at c0)
       | (with_reducible refine a0a (o:=⟨some 49,_,_,_,_,_⟩) a1c.row rfl (.tmp 10) rfl rfl b5 rfl ?_)
       | (with_reducible refine a0a (o:=⟨some 50,_,_,_,_,_⟩) a1c.row rfl (.tmp 3) rfl rfl (Blk.kept HM.out.a KK.out (by simpa using G.out.1)) rfl ?_)
       | (go_at_call 84;(with_reducible refine(cm2.out _).mono ?_);rintro e y2 ⟨rfl,kk2⟩)
       | ((with_reducible refine a0b (o:=⟨none,.store 27 (.tmp 10) (.tmp 51),_,_,_,_⟩) a1c.row rfl (.tmp 10) (.tmp 51) rfl rfl rfl (Blk.kept b5 kk2 (by simp)) rfl rfl (a1j _) ?_);intro v6 b6 k6))
      go_roundg (m - 1)
      case measure=>omega
      case rel=>
       refine⟨m - 1,rfl,by omega,by go_num,_,?_,b6,(KK.out.a0i kk2).trans k6 (fun _ _ h=>h) (fun _ _ h=>h)⟩
       rw [hst.out,if_pos hbt.out]
     ·replace hbt:=hjd (show X.testBit (m - 1)=false from by simpa using hbt)
      go_wp2_with (first
       | (with_reducible refine a0a (o:=⟨some 42,_,_,_,_,_⟩) a1c.row rfl (.tmp 10) rfl rfl H.out rfl ?_)
       | (with_reducible refine a0a (o:=⟨some 43,_,_,_,_,_⟩) a1c.row rfl (.tmp 10) rfl rfl H.out rfl ?_)
       | (go_at_call 84;(with_reducible refine(cm.out _).mono ?_);rintro e y1 ⟨rfl,kk1⟩)
       | ((with_reducible refine a0b (o:=⟨none,.store 27 (.tmp 10) (.tmp 44),_,_,_,_⟩) a1c.row rfl (.tmp 10) (.tmp 44) rfl rfl rfl (Blk.kept H.out kk1 (by simp)) rfl rfl (a1j _) ?_);intro v5 b5 k5;have KK:=hjd ((HK.out.a0i kk1).trans k5 (fun _ _ h=>h) (fun _ _ h=>h));have c0:=Eb.get (Blk.kept HM.out.e KK.out (by simpa using G.out.2.2.1)) (m - 1) (by omega);rw [hbt.out]at c0))
      go_roundg (m - 1)
      case measure=>omega
      case rel=>
       refine⟨m - 1,rfl,by omega,by go_num,_,?_,b5,KK.out⟩
       rw [hst.out,if_neg (by rw [hbt.out];simp)]
    ·obtain rfl:m=0:=by omega
     go_wp2_with (first
      | (with_reducible refine a0a (o:=⟨some 52,_,_,_,_,_⟩) a1c.row rfl (.tmp 10) rfl rfl H.out rfl ?_)
      | ((with_reducible refine a0b (o:=⟨none,.store 27 (.tmp 6) (.tmp 52),_,_,_,_⟩) a1c.row rfl (.tmp 6) (.tmp 52) rfl rfl rfl (Blk.kept HM.out.r HK.out (by simpa using G.out.2.1)) rfl rfl (a1j _) ?_);intro v6 b6 k6))
     exact a0y a1c.row rfl rfl b6 rfl rfl ⟨by rw [hde.out,Nat.sub_zero,hX.out],(HM.out.k.a0n HK.out G.out.2.2.2).a0n k6 P.out.l6⟩
end Go.Proofs.YtdbngnlpafcogaaGreat
namespace Go.Proofs.YtdbngnlpafcogaaGreat
open Go.RowKit Go.Mem Go.Txt
structure Dq (M:Int) (d:Nat→Int) (a:Ed.Fq):Prop where
 sm:Sm M d
 val:dv d 16 % PZ=((a.v:Nat):Int)
theorem Dr.q{d:Nat→Int}{x:Nat}(h:Dr d x):Dq 70000 d (Ed.mk x):=⟨h.sm,h.val⟩
theorem Dq.db{M:Int}{d:Nat→Int}{a:Ed.Fq}(h:Dq M d a)(hM:M≤280000):Db d a.v:=⟨h.sm.le hM,by rw [h.val,Nat.mod_eq_of_lt (b8k a)]⟩
theorem Dq.to{M:Int}{d:Nat→Int}{a b:Ed.Fq}(h:Dq M d a)(e:a=b):Dq M d b:=e▸h
abbrev RmC(a b r:Nat→Int):Prop:=∀W,Calls Tryz.prog 84 #[nu a,nu b] W fun e w'=>e= .returned (nu r)∧Kept [] W w'
abbrev RaC(a b r:Nat→Int):Prop:=∀W,Calls Tryz.prog 123 #[nu a,nu b] W fun e w'=>e= .returned (nu r)∧Kept [] W w'
abbrev RsC(a b r:Nat→Int):Prop:=∀W,Calls Tryz.prog 85 #[nu a,nu b] W fun e w'=>e= .returned (nu r)∧Kept [] W w'
abbrev RoC(z:Int)(r:Nat→Int):Prop:=∀W,Calls Tryz.prog 86 #[.int .u64 z] W fun e w'=>e= .returned (nu r)∧Kept [] W w'
abbrev RiC(a r:Nat→Int):Prop:=∀W,Calls Tryz.prog 87 #[nu a] W fun e w'=>e= .returned (nu r)∧Kept [] W w'
abbrev RpC(a:Nat→Int)(n l:Int)(r:Nat→Int):Prop:=∀W,Calls Tryz.prog 151 #[nu a,.int .i64 n,.int .u64 l] W fun e w'=>e= .returned (nu r)∧Kept [] W w'
abbrev RkC(a:Nat→Int)(l:List UInt8):Prop:=∀W,Calls Tryz.prog 107 #[nu a] W fun e w'=>e= .returned (ab l)∧Kept [] W w'
abbrev ReC(a b:Nat→Int)(r:Bool):Prop:=∀W,Calls Tryz.prog 162 #[nu a,nu b] W fun e w'=>e= .returned (.bool r)∧Kept [] W w'
theorem a1s{M N:Int}{d e:Nat→Int}{a b:Ed.Fq}(h:Dq M d a)(h2:Dq N e b)(hM:M≤280000)(hN:N≤280000):∃r,RmC d e r∧Dq 70000 r (a * b):=by
 refine⟨muN d e,fun W=>b6y d e (h.sm.le hM) (h2.sm.le hN) W,c1q (h.sm.le hM) (h2.sm.le hN),?_⟩
 rw [c1m,Int.mul_emod,h.val,h2.val,←Int.natCast_mul,b8m]
 rfl
theorem dv_sN(a b:Nat→Int):∀n,dv (sN a b) n=dv a n - dv b n
 | 0=>rfl
 | n + 1=>by rw [dv,dv,dv,dv_sN a b n];unfold sN;grind
theorem b2g{M N:Int}{d e:Nat→Int}{a b:Ed.Fq}(h:Dq M d a)(h2:Dq N e b)(hM:M≤280000)(hN:N≤280000):∃r,RaC d e r∧Dq (M + N) r (a + b):=by
 refine⟨aN d e,fun W=>c4z d e (h.sm.le hM) (h2.sm.le hN) W,fun i hi=>?_,?_⟩
 ·have:=h.sm i hi
  have:=h2.sm i hi
  unfold aN
  omega
 ·rw [d3r,Int.add_emod,h.val,h2.val,←Int.natCast_add,b8m]
  rfl
theorem b1e{M N:Int}{d e:Nat→Int}{a b:Ed.Fq}(h:Dq M d a)(h2:Dq N e b)(hM:M≤280000)(hN:N≤280000):∃r,RsC d e r∧Dq (M + N) r (a - b):=by
 refine⟨sN d e,fun W=>d7v d e (h.sm.le hM) (h2.sm.le hN) W,fun i hi=>?_,?_⟩
 ·have:=h.sm i hi
  have:=h2.sm i hi
  unfold sN
  omega
 ·have hb:=b8k b
  have e1:(((a - b).v:Nat):Int)=((a.v:Int) - (b.v:Int)) % PZ:=by
   have e2:(a - b).v=(a.v + (PP - b.v) % PP) % PP:=rfl
   rw [e2,Int.natCast_emod,Int.natCast_add,Int.natCast_emod,Int.natCast_sub (Nat.le_of_lt hb),b8m,Int.add_emod_emod,show(a.v:Int) + ((PP:Int) - (b.v:Int))=(a.v:Int) - (b.v:Int) + (PP:Int)from by omega,Int.add_emod_right]
  rw [e1,dv_sN,Int.sub_emod,h.val,h2.val]
theorem c0f(v:Nat){z:Int}(hv:v < 18446744073709551616)(hz:((v:Nat):Int)=z):∃r,RoC z r∧Dq 70000 r (Ed.mk v):=by
 subst hz
 exact⟨dgN v,fun W=>e1d v hv W,(e1i v (Nat.lt_trans hv (by decide))).q⟩
theorem d1u{M:Int}{d:Nat→Int}{a:Ed.Fq}(h:Dq M d a)(hM:M≤280000)(n l:Nat){zn zl:Int}(en:((n:Nat):Int)=zn)(el:((l:Nat):Int)=zl)(hn:n≤1000)(hl:l≤2 ^ n)(hl2:l < 1000):∃r,RpC d zn zl r∧Dq 70000 r (Ed.mk (a.v ^ (2 ^ n - l))):=by
 subst en el
 exact⟨powN d n l,fun W=>d3q d a.v n l (h.db hM) hn hl hl2 W,(e2r (h.db hM) n l).q⟩
def IE:Nat:=PP - 2
theorem IE_eq:2 ^ 255 - 21=IE:=by decide +kernel
theorem IE_pe:IE=Ed.pe:=by unfold IE Ed.pe;rfl
set_option maxHeartbeats 1600000 in
theorem b0d{M:Int}{d:Nat→Int}{a:Ed.Fq}(h:Dq M d a)(hM:M≤280000):∃r,RiC d r∧Dq 70000 r (Ed.inv a):=by
 obtain⟨r,c,hr⟩:=d1u h hM 255 21 (zn:=255) (zl:=21) rfl rfl (by omega) (by decide +kernel) (by omega)
 rw [IE_eq,IE_pe]at hr
 refine⟨r,?_,hr⟩
 intro w
 have cp:=hjd c
 clear h c hr
 go_enter Tryz.func87,Tryz.ntmps87
 go_wp2_with (first
  | ((with_reducible refine a0m (o:=⟨some 1,_,_,_,_,_⟩) (v:=nu d) rfl (.tmp 0) rfl rfl ?_);intro g1 w1 m1)
  | ((with_reducible refine a0f (o:=⟨some 2,_,_,_,_,_⟩) rfl rfl a2i ?_);intro g2 w2 m2)
  | (with_reducible refine a0a (o:=⟨some 3,_,_,_,_,_⟩) a1c.row rfl (.tmp 1) rfl rfl (m1.blk.kept m2.kept (by simp)) rfl ?_)
  | (go_at_call 151;(with_reducible refine(cp.out _).mono ?_);rintro e x1 ⟨rfl,kk1⟩)
  | ((with_reducible refine a0b (o:=⟨none,.store 27 (.tmp 2) (.tmp 4),_,_,_,_⟩) a1c.row rfl (.tmp 2) (.tmp 4) rfl rfl rfl (m2.blk.kept kk1 (by simp)) rfl rfl (a1j _) ?_);intro v2 b2 k2))
 exact a0y a1c.row rfl rfl b2 rfl rfl ⟨rfl,((m1.kept.a0i m2.kept).a0i kk1).a0n k2 (Nat.le_trans m1.kept.size m2.le)⟩
theorem e6i{M:Int}{d:Nat→Int}{a:Ed.Fq}(h:Dq M d a)(hM:M≤4611686018427387904):RkC d (le a.v 32):=
 e1x d (h.sm.le hM) a.v a.v (by rw [h.val,b8m,←Int.natCast_emod,Nat.mod_eq_of_lt (b8k a)]) (Nat.mod_eq_of_lt (b8k a))
theorem a9m(xs:Array Value)(w:World):(callFunc 123 xs).run Tryz.prog w= .ok (.enter 123 xs) w:=enters_of (c:=_) Tryz.func123 (by kernel_rfl) rfl xs w
theorem a3t(xs:Array Value)(w:World):(callFunc 85 xs).run Tryz.prog w= .ok (.enter 85 xs) w:=enters_of (c:=_) Tryz.func85 (by kernel_rfl) rfl xs w
theorem a0u(xs:Array Value)(w:World):(callFunc 84 xs).run Tryz.prog w= .ok (.enter 84 xs) w:=enters_of (c:=_) Tryz.func84 (by kernel_rfl) rfl xs w
theorem a5o(xs:Array Value)(w:World):(callFunc 87 xs).run Tryz.prog w= .ok (.enter 87 xs) w:=enters_of (c:=_) Tryz.func87 (by kernel_rfl) rfl xs w
theorem a2r(xs:Array Value)(w:World):(callFunc 86 xs).run Tryz.prog w= .ok (.enter 86 xs) w:=enters_of (c:=_) Tryz.func86 (by kernel_rfl) rfl xs w
theorem a9p(xs:Array Value)(w:World):(callFunc 151 xs).run Tryz.prog w= .ok (.enter 151 xs) w:=enters_of (c:=_) Tryz.func151 (by kernel_rfl) rfl xs w
theorem a2q(xs:Array Value)(w:World):(callFunc 162 xs).run Tryz.prog w= .ok (.enter 162 xs) w:=enters_of (c:=_) Tryz.func162 (by kernel_rfl) rfl xs w
structure R4 where
 x:Nat→Int
 y:Nat→Int
 z:Nat→Int
 t:Nat→Int
def R4.c(p:R4):List Value:=iv (fam 16 p.x) ++ (iv (fam 16 p.y) ++ (iv (fam 16 p.z) ++ iv (fam 16 p.t)))
abbrev R4.v(p:R4):Value:=.agg p.c.toArray
theorem b1p(d:Nat→Int):(iv (fam 16 d)).length=16:=by simp [a5b]
theorem R4.len(p:R4):p.c.length=64:=by simp [R4.c,a5b]
theorem R4.size(p:R4):p.c.toArray.size=64:=by rw [List.size_toArray,R4.len]
theorem R4.one(p:R4):p.c.toArray.all (·.oneCell')=true:=by
 rw [Array.all_eq_true_iff_forall_mem]
 intro v hv
 have h:v∈p.c:=by simpa using hv
 unfold R4.c at h
 simp only [List.mem_append]at h
 rcases h with h | h | h | h <;> exact c9z _ v h
def rz:R4:=⟨zd,zd,zd,zd⟩
theorem a2k:RowT Tryz.prog 85 64:=⟨⟨_,Tryz.underlying85,rfl⟩,by kernel_rfl⟩
theorem b5x:(Tryz.prog.info? 85).map (·.zero)=some (some rz.v):=by kernel_rfl
theorem a3c:RowT Tryz.prog 29 16:=⟨⟨_,Tryz.underlying29,rfl⟩,by kernel_rfl⟩
theorem e1u:(Tryz.prog.info? 29).map (·.zero)=some (some (nu zd)):=by kernel_rfl
theorem R4.px{p:R4}{u:World}{g:Nat}{bt:TypeId}(h:Blk u g bt p.c.toArray):u.rangeAt g 0 (iv (fam 16 p.x)):=Blk.range (pre:=[]) h rfl
theorem R4.py{p:R4}{u:World}{g:Nat}{bt:TypeId}(h:Blk u g bt p.c.toArray):u.rangeAt g 16 (iv (fam 16 p.y)):=Blk.range (pre:=iv (fam 16 p.x)) h (b1p _)
theorem R4.pz{p:R4}{u:World}{g:Nat}{bt:TypeId}(h:Blk u g bt p.c.toArray):u.rangeAt g 32 (iv (fam 16 p.z)):=Blk.range (pre:=iv (fam 16 p.x) ++ iv (fam 16 p.y)) (post:=iv (fam 16 p.t)) (by unfold R4.c at h;rwa [List.append_assoc]) (by simp [a5b])
theorem e7q{d:Nat→Int}{u:World}{g:Nat}{bt:TypeId}(h:Blk u g bt (iv (fam 16 d)).toArray):u.rangeAt g 0 (iv (fam 16 d)):=Blk.range (pre:=[]) (post:=[]) (by rw [List.nil_append,List.append_nil];exact h) rfl
theorem e7t(g:Nat)(W:World):(Instr.fieldAt 85 (.pointer (some ⟨g,0,none⟩)) 0).run Tryz.prog W= .ok (.pointer (some ⟨g,0,none⟩)) W:=by kernel_rfl
theorem e7b(g:Nat)(W:World):(Instr.fieldAt 85 (.pointer (some ⟨g,0,none⟩)) 1).run Tryz.prog W= .ok (.pointer (some ⟨g,16,none⟩)) W:=by kernel_rfl
theorem cfa0(g:Nat)(W:World):(Instr.fieldAt 29 (.pointer (some ⟨g,0,none⟩)) 0).run Tryz.prog W= .ok (.pointer (some ⟨g,0,none⟩)) W:=by kernel_rfl
theorem d8u(x y z t:Nat→Int):Tryz.prog.built 85 [(0,nu x),(1,nu y),(2,nu z),(3,nu t)]=some (R4.mk x y z t).c.toArray:=by kernel_rfl
theorem d4v(x y z:Nat→Int):Tryz.prog.built 85 [(0,nu x),(1,nu y),(2,nu z)]=some (R4.mk x y z zd).c.toArray:=by kernel_rfl
theorem d4i(y z:Nat→Int):Tryz.prog.built 85 [(1,nu y),(2,nu z)]=some (R4.mk zd y z zd).c.toArray:=by kernel_rfl
theorem d6w(d:Nat→Int):Tryz.prog.built 29 [(0,nu d)]=some (iv (fam 16 d)).toArray:=by kernel_rfl
theorem d5j:Tryz.prog.built 27 []=some (iv (fam 16 zd)).toArray:=by kernel_rfl
structure Rr (p:R4) (P:Ed.Pt):Prop where
 e:∃x y z:Ed.Fq,Dq 70000 p.x x∧Dq 70000 p.y y∧Dq 70000 p.z z∧z≠0∧P.x * z=x∧P.y * z=y
end Go.Proofs.YtdbngnlpafcogaaGreat
namespace Go.Proofs.YtdbngnlpafcogaaGreat
open Go.RowKit Go.Mem Go.Txt
section
variable {P:Program} {w:World} {o:Oper} {a:Act} {C:Act→World→Prop} {R:Exit→Act→World→Prop}
theorem d9z{t:TypeId}{ps:Array (Nat × Operand)}{vs:List (Nat × Value)}{cs:Array Value}(ho:o.op= .build t ps)(hv:(ps.map fun(p:Nat × Operand)=>(p.1,a.eval p.2)).toList=vs)(hb:P.built t vs=some cs)(h:C (a.put o.dst (.agg cs)) w):o.wp P a w C R:=by
 refine wp_build t ps ho (by rw [show(ps.map fun(p:Nat × Operand)=>(p.1,a.eval p.2)).toList=vs from hv,hb];rfl) ?_
 rw [show(ps.map fun(p:Nat × Operand)=>(p.1,a.eval p.2)).toList=vs from hv,hb]
 exact h
theorem a9i(x:Operand){t:TypeId}(ho:o.op= .unOp .not t x){b:Bool}(hx:a.eval x= .bool b)(h:C (a.put o.dst (.bool (!b))) w):o.wp P a w C R:=by
 unfold Oper.wp execOp
 simp [ho,hx,Op.unary]
 exact h
end
theorem zdq:Dq 70000 zd 0:=⟨fun i _=>by unfold zd;omega,by rw [Ed.b6b];decide +kernel⟩
theorem c3o(a:Ed.Fq):a * Ed.mk 1=a:=Lean.Grind.Semiring.mul_one a
theorem a6d{M:Int}{d:Nat→Int}{a:Ed.Fq}(h:Dq M d a)(hM:M≤4611686018427387904):∃l,RkC d l∧l=le a.v 32∧l.length=32:=⟨_,e6i h hM,rfl,a0o _ _⟩
theorem dee_e:(Ed.mk 0 - Ed.mk 121665) * Ed.inv (Ed.mk 121666)=Ed.D:=by
 have h:Ed.mk 121666≠0:=fun e=>absurd (Ed.mk_eq.1 e) (by decide +kernel)
 have h1:=Ed.a4j _ h
 have h2:Ed.D * Ed.mk 121666=Ed.mk 0 - Ed.mk 121665:=by
  unfold Ed.D
  exact Ed.Fq.ext (by decide +kernel)
 rw [←h2]
 generalize Ed.mk 121666=x at *
 generalize Ed.inv x=i at *
 generalize Ed.D=D at *
 clear h h2
 grind
abbrev DeeC(r:Nat→Int):Prop:=∀W,Calls Tryz.prog 29 #[] W fun e w'=>e= .returned (nu r)∧Kept [] W w'
set_option maxHeartbeats 4000000 in
theorem dee_r:∃r,DeeC r∧Dq 70000 r Ed.D:=by
 obtain⟨d1,c1,h1⟩:=c0f 0 (z:=0) (by omega) rfl
 obtain⟨d2,c2,h2⟩:=c0f 121665 (z:=121665) (by omega) rfl
 obtain⟨d3,c3,h3⟩:=b1e h1 h2 (by omega) (by omega)
 obtain⟨d4,c4,h4⟩:=c0f 121666 (z:=121666) (by omega) rfl
 obtain⟨d5,c5,h5⟩:=b0d h4 (by omega)
 obtain⟨d6,c6,h6⟩:=a1s h3 h5 (by omega) (by omega)
 refine⟨d6,?_,h6.to dee_e⟩
 intro w
 replace c1:=hjd c1
 replace c2:=hjd c2
 replace c3:=hjd c3
 replace c4:=hjd c4
 replace c5:=hjd c5
 replace c6:=hjd c6
 go_enter Tryz.func29,Tryz.ntmps29
 have t:=hjd (Pm.none w)
 go_wp2_with (first
  | ((with_reducible refine a0f (o:=⟨some 0,_,_,_,_,_⟩) rfl rfl a2i ?_);intro g0 w0 m0;have N0:=hjd (fun p hp=>m0.ne (t.out.s p hp).lt);have L0:=hjd (Nat.le_trans t.out.k.size m0.le);replace t:=hjd ((t.out.kept m0.kept).cons (show Blk w0 g0 27 (iv (fam 16 zd)).toArray from m0.blk));clear m0)
  | (go_at_call 86;(with_reducible refine(c1.out _).mono ?_);rintro e v ⟨rfl,kk⟩;replace t:=hjd (t.out.kept kk);clear kk)
  | (go_at_call 86;(with_reducible refine(c2.out _).mono ?_);rintro e v ⟨rfl,kk⟩;replace t:=hjd (t.out.kept kk);clear kk)
  | (go_at_call 85;(with_reducible refine(c3.out _).mono ?_);rintro e v ⟨rfl,kk⟩;replace t:=hjd (t.out.kept kk);clear kk)
  | (go_at_call 86;(with_reducible refine(c4.out _).mono ?_);rintro e v ⟨rfl,kk⟩;replace t:=hjd (t.out.kept kk);clear kk)
  | (go_at_call 87;(with_reducible refine(c5.out _).mono ?_);rintro e v ⟨rfl,kk⟩;replace t:=hjd (t.out.kept kk);clear kk)
  | (go_at_call 84;(with_reducible refine(c6.out _).mono ?_);rintro e v ⟨rfl,kk⟩;replace t:=hjd (t.out.kept kk);clear kk)
  | ((refine a0b (o:=⟨none,.store 27 (.tmp 0) (.tmp 6),_,_,_,_⟩) a1c.row rfl (.tmp 0) (.tmp 6) rfl rfl rfl (t.out.s (g0,27,(iv (fam 16 zd)).toArray) (by simp)) rfl rfl (a1j _) ?_);intro v0 b0 k0;replace t:=hjd (t.out.again L0.out N0.out b0 k0);clear b0 k0))
 exact a0y a1c.row rfl rfl (t.out.s (g0,27,(iv (fam 16 d6)).toArray) (by simp)) rfl rfl ⟨rfl,t.out.k⟩
abbrev ZeC(r:R4):Prop:=∀W,Calls Tryz.prog 108 #[] W fun e w'=>e= .returned r.v∧Kept [] W w'
set_option maxHeartbeats 4000000 in
theorem zero_r:∃r,ZeC r∧Rr r Ed.Pt.zero:=by
 obtain⟨d1,c1,h1⟩:=c0f 1 (z:=1) (by omega) rfl
 obtain⟨R2,hR2⟩:∃R:R4,R=(R4.mk zd d1 d1 zd):=⟨_,rfl⟩
 have bu2:Tryz.prog.built 85 [(1,nu d1),(2,nu d1)]=some R2.c.toArray:=by rw [hR2];exact d4i _ _
 have hRr:Rr R2 Ed.Pt.zero:=by rw [hR2];exact⟨_,_,_,zdq,h1,h1,a9t,by rw [c0m];exact Lean.Grind.Semiring.zero_mul _,by rw [c0c];exact Lean.Grind.Semiring.one_mul _⟩
 clear hR2
 refine⟨R2,?_,hRr⟩
 clear hRr
 intro w
 replace c1:=hjd c1
 replace bu2:=hjd bu2
 go_enter Tryz.func108,Tryz.ntmps108
 have t:=hjd (Pm.none w)
 go_wp2_with (first
  | ((with_reducible refine a0f (o:=⟨some 0,_,_,_,_,_⟩) rfl rfl b5x ?_);intro g0 w0 m0;have N0:=hjd (fun p hp=>m0.ne (t.out.s p hp).lt);have L0:=hjd (Nat.le_trans t.out.k.size m0.le);replace t:=hjd ((t.out.kept m0.kept).cons (show Blk w0 g0 85 rz.c.toArray from m0.blk));clear m0)
  | (go_at_call 86;(with_reducible refine(c1.out _).mono ?_);rintro e v ⟨rfl,kk⟩;replace t:=hjd (t.out.kept kk);clear kk)
  | (go_at_call 86;(with_reducible refine(c1.out _).mono ?_);rintro e v ⟨rfl,kk⟩;replace t:=hjd (t.out.kept kk);clear kk)
  | (refine a9d (o:=⟨some 3,_,_,_,_,_⟩) (v:=nu d1) (u:=nu d1) rfl 1 2 (.tmp 1) (.tmp 2) rfl rfl rfl (bu2.out) ?_)
  | ((refine a0b (o:=⟨none,.store 85 (.tmp 0) (.tmp 3),_,_,_,_⟩) a2k rfl (.tmp 0) (.tmp 3) rfl rfl rfl (t.out.s (g0,85,rz.c.toArray) (by simp)) (R4.size rz) (R4.size R2) (R4.one R2) ?_);intro v0 b0 k0;replace t:=hjd (t.out.again L0.out N0.out b0 k0);clear b0 k0))
 exact a0y a2k rfl rfl (t.out.s (g0,85,R2.c.toArray) (by simp)) (R4.size _) rfl ⟨rfl,t.out.k⟩
abbrev OnC(a b:Nat→Int)(r:R4):Prop:=∀W,Calls Tryz.prog 110 #[nu a,nu b] W fun e w'=>e= .returned r.v∧Kept [] W w'
set_option maxHeartbeats 4000000 in
theorem on_r{P:Ed.Pt}{dx dy:Nat→Int}(hx:Dq 70000 dx P.x)(hy:Dq 70000 dy P.y):∃r,OnC dx dy r∧Rr r P:=by
 obtain⟨d1,c1,h1⟩:=c0f 1 (z:=1) (by omega) rfl
 obtain⟨d2,c2,h2⟩:=a1s hx hy (by omega) (by omega)
 obtain⟨R3,hR3⟩:∃R:R4,R=(R4.mk dx dy d1 d2):=⟨_,rfl⟩
 have bu3:Tryz.prog.built 85 [(0,nu dx),(1,nu dy),(2,nu d1),(3,nu d2)]=some R3.c.toArray:=by rw [hR3];exact d8u _ _ _ _
 have hRr:Rr R3 P:=by rw [hR3];exact⟨_,_,_,hx,hy,h1,a9t,c3o _,c3o _⟩
 clear hR3
 refine⟨R3,?_,hRr⟩
 clear hRr
 intro w
 replace c1:=hjd c1
 replace c2:=hjd c2
 replace bu3:=hjd bu3
 go_enter Tryz.func110,Tryz.ntmps110
 have t:=hjd (Pm.none w)
 go_wp2_with (first
  | ((with_reducible refine a0m (o:=⟨some 2,_,_,_,_,_⟩) (v:=nu dx) rfl (.tmp 0) rfl rfl ?_);intro g2 w2 m2;have N2:=hjd (fun p hp=>m2.ne (t.out.s p hp).lt);have L2:=hjd (Nat.le_trans t.out.k.size m2.le);replace t:=hjd ((t.out.kept m2.kept).cons (show Blk w2 g2 27 (iv (fam 16 dx)).toArray from m2.blk));clear m2)
  | ((with_reducible refine a0m (o:=⟨some 3,_,_,_,_,_⟩) (v:=nu dy) rfl (.tmp 1) rfl rfl ?_);intro g3 w3 m3;have N3:=hjd (fun p hp=>m3.ne (t.out.s p hp).lt);have L3:=hjd (Nat.le_trans t.out.k.size m3.le);replace t:=hjd ((t.out.kept m3.kept).cons (show Blk w3 g3 27 (iv (fam 16 dy)).toArray from m3.blk));clear m3)
  | ((with_reducible refine a0f (o:=⟨some 4,_,_,_,_,_⟩) rfl rfl b5x ?_);intro g4 w4 m4;have N4:=hjd (fun p hp=>m4.ne (t.out.s p hp).lt);have L4:=hjd (Nat.le_trans t.out.k.size m4.le);replace t:=hjd ((t.out.kept m4.kept).cons (show Blk w4 g4 85 rz.c.toArray from m4.blk));clear m4))
 refine a3o (by kernel_rfl) [nu dx,nu dy,nu d1,nu dx,nu dy,nu d2,R3.v]
  (Pm w [(g4,85,rz.c.toArray),(g3,27,(iv (fam 16 dy)).toArray),(g2,27,(iv (fam 16 dx)).toArray)]) (by kernel_rfl) rfl rfl (by kernel_rfl) t.out.drew (fun u u' h hk=>h.kept hk) ?_ ?_
 ·refine⟨?_,?_,?_,?_,?_,?_,?_,trivial⟩
  ·exact fun a' u K0 R hS hr ho h=>a0g a1c.row (.tmp 2) rfl ((ho 2 (by decide)).trans rfl) (hS.s (g2,27,(iv (fam 16 dx)).toArray) (by simp)) rfl (h u (Kept.refl _ _))
  ·exact fun a' u K0 R hS hr ho h=>a0g a1c.row (.tmp 3) rfl ((ho 3 (by decide)).trans rfl) (hS.s (g3,27,(iv (fam 16 dy)).toArray) (by simp)) rfl (h u (Kept.refl _ _))
  ·refine fun a' u K0 R hS hr ho h=>a0e rfl a2r (vs:=#[.int .u64 1]) ?_ (c1.out u) h
   simp [Act.eval]
  ·exact fun a' u K0 R hS hr ho h=>a0g a1c.row (.tmp 2) rfl ((ho 2 (by decide)).trans rfl) (hS.s (g2,27,(iv (fam 16 dx)).toArray) (by simp)) rfl (h u (Kept.refl _ _))
  ·exact fun a' u K0 R hS hr ho h=>a0g a1c.row (.tmp 3) rfl ((ho 3 (by decide)).trans rfl) (hS.s (g3,27,(iv (fam 16 dy)).toArray) (by simp)) rfl (h u (Kept.refl _ _))
  ·refine fun a' u K0 R hS hr ho h=>a0e rfl a0u (vs:=#[nu dx,nu dy]) ?_ (c2.out u) h
   have x0:=hr 3 (nu dx) 8 _ rfl rfl rfl ⟨⟨3,.data⟩,by simp,rfl,rfl⟩
   have x1:=hr 4 (nu dy) 9 _ rfl rfl rfl ⟨⟨4,.data⟩,by simp,rfl,rfl⟩
   simp [Act.eval]at x0 x1 ⊢
   exact⟨x0,x1⟩
  ·refine fun a' u K0 R hS hr ho h=>?_
   have x0:=hr 0 (nu dx) 5 _ rfl rfl rfl ⟨⟨0,.data⟩,by simp,rfl,rfl⟩
   have x1:=hr 1 (nu dy) 6 _ rfl rfl rfl ⟨⟨1,.data⟩,by simp,rfl,rfl⟩
   have x2:=hr 2 (nu d1) 7 _ rfl rfl rfl ⟨⟨2,.data⟩,by simp,rfl,rfl⟩
   have x3:=hr 5 (nu d2) 10 _ rfl rfl rfl ⟨⟨5,.data⟩,by simp,rfl,rfl⟩
   simp at x0 x1 x2 x3
   exact d9z rfl (by simp [Act.eval,x0,x1,x2,x3]) (bu3.out) (h u (Kept.refl _ _))
 intro ul hSl
 simp [a0w,List.range,List.range.loop,Act.put]
 refine a2p a2k (.tmp 4) (.tmp 11) rfl rfl rfl (hSl.s (g4,85,rz.c.toArray) (by simp)) (R4.size rz) (R4.size R3) (R4.one R3) ?_
 simp [Act.put]
 have bl:=(hSl.s (g4,85,rz.c.toArray) (by simp)).a3b R3.c.toArray
 have kl:Kept [g4] ul (ul.setRow g4 R3.c.toArray):=(Kept.refl [g4] ul).setRow (.inl (by simp)) _
 replace t:=hjd (hSl.again L4.out N4.out bl kl)
 clear bl kl hSl
 go_wp2_with fail
 exact a0y a2k rfl rfl (t.out.s (g4,85,R3.c.toArray) (by simp)) (R4.size _) rfl ⟨rfl,t.out.k⟩
abbrev NwC(r:Nat→Int):Prop:=∀W,Calls Tryz.prog 8 #[] W fun e w'=>e= .returned (nu r)∧Kept [] W w'
set_option maxHeartbeats 4000000 in
theorem new_r:∃r,NwC r∧Dq 70000 r Ed.D:=by
 obtain⟨dD,cD,hD⟩:=dee_r
 refine⟨dD,?_,hD⟩
 intro w
 replace cD:=hjd cD
 go_enter Tryz.func8,Tryz.ntmps8
 have t:=hjd (Pm.none w)
 go_wp2_with (first
  | ((with_reducible refine a0f (o:=⟨some 0,_,_,_,_,_⟩) rfl rfl e1u ?_);intro g0 w0 m0;have N0:=hjd (fun p hp=>m0.ne (t.out.s p hp).lt);have L0:=hjd (Nat.le_trans t.out.k.size m0.le);replace t:=hjd ((t.out.kept m0.kept).cons (show Blk w0 g0 29 (iv (fam 16 zd)).toArray from m0.blk));clear m0)
  | (go_at_call 29;(with_reducible refine(cD.out _).mono ?_);rintro e v ⟨rfl,kk⟩;replace t:=hjd (t.out.kept kk);clear kk)
  | (refine a4f (o:=⟨some 2,_,_,_,_,_⟩) (v:=nu dD) rfl 0 (.tmp 1) rfl rfl (d6w _) ?_)
  | ((refine a0b (o:=⟨none,.store 29 (.tmp 0) (.tmp 2),_,_,_,_⟩) a3c rfl (.tmp 0) (.tmp 2) rfl rfl rfl (t.out.s (g0,29,(iv (fam 16 zd)).toArray) (by simp)) rfl rfl (a1j _) ?_);intro v0 b0 k0;replace t:=hjd (t.out.again L0.out N0.out b0 k0);clear b0 k0))
 exact a0y a3c rfl rfl (t.out.s (g0,29,(iv (fam 16 dD)).toArray) (by simp)) rfl rfl ⟨rfl,t.out.k⟩
end Go.Proofs.YtdbngnlpafcogaaGreat
namespace Go.Proofs.YtdbngnlpafcogaaGreat
open Go.RowKit Go.Mem Go.Txt
theorem c9g{P Q:Ed.Pt}{x1 y1 u x2 y2 v:Ed.Fq}{dX dY dZ:Nat→Int}(p0:u≠0)(p1:P.x * u=x1)(p2:P.y * u=y1)(q0:v≠0)(q1:Q.x * v=x2)(q2:Q.y * v=y2)
 (hX:Dq 70000 dX ((x1 * y2 + y1 * x2) * (u * v) * (u * v * (u * v) - Ed.D * (x1 * x2 * (y1 * y2))))) (hY:Dq 70000 dY ((y1 * y2 + x1 * x2) * (u * v) * (u * v * (u * v) + Ed.D * (x1 * x2 * (y1 * y2))))) (hZ:Dq 70000 dZ ((u * v * (u * v) + Ed.D * (x1 * x2 * (y1 * y2))) * (u * v * (u * v) - Ed.D * (x1 * x2 * (y1 * y2))))) :
 Rr ⟨dX,dY,dZ,zd⟩ (P + Q):=by
 have hx:=c0v P Q
 have hy:=b9f P Q
 have n1:=Ed.b9i.plus P.on Q.on
 have n2:=Ed.b9i.minus P.on Q.on
 subst p1 p2 q1 q2
 have ep:u * v * (u * v) + Ed.D * (P.x * u * (Q.x * v) * (P.y * u * (Q.y * v)))=u * v * (u * v) * (1 + Ed.D * P.x * Q.x * P.y * Q.y):=by
  generalize Ed.D=D at *;generalize P.x=a at *;generalize P.y=b at *;generalize Q.x=c at *;generalize Q.y=d at *
  clear hx hy n1 n2 hX hY hZ
  grind
 have em:u * v * (u * v) - Ed.D * (P.x * u * (Q.x * v) * (P.y * u * (Q.y * v)))=u * v * (u * v) * (1 - Ed.D * P.x * Q.x * P.y * Q.y):=by
  generalize Ed.D=D at *;generalize P.x=a at *;generalize P.y=b at *;generalize Q.x=c at *;generalize Q.y=d at *
  clear hx hy n1 n2 hX hY hZ ep
  grind
 rw [ep,em]at hZ
 rw [em]at hX
 rw [ep]at hY
 have huv:=Ed.a2j (Ed.a2j p0 q0) (Ed.a2j p0 q0)
 refine⟨_,_,_,hX,hY,hZ,Ed.a2j (Ed.a2j huv n1) (Ed.a2j huv n2),?_,?_⟩
 ·generalize (P + Q).x=X at *
  generalize 1 - Ed.D * P.x * Q.x * P.y * Q.y=m at *
  generalize 1 + Ed.D * P.x * Q.x * P.y * Q.y=n at *
  have e:X * (u * v * (u * v) * n * (u * v * (u * v) * m))=X * n * (u * v * (u * v) * (u * v * (u * v) * m)):=by clear hx hy n1 n2 hX hY hZ ep em;grind
  rw [e,hx]
  clear e hx hy n1 n2 hX hY hZ ep em
  grind
 ·generalize (P + Q).y=X at *
  generalize 1 - Ed.D * P.x * Q.x * P.y * Q.y=m at *
  generalize 1 + Ed.D * P.x * Q.x * P.y * Q.y=n at *
  have e:X * (u * v * (u * v) * n * (u * v * (u * v) * m))=X * m * (u * v * (u * v) * (u * v * (u * v) * n)):=by clear hx hy n1 n2 hX hY hZ ep em;grind
  rw [e,hy]
  clear e hx hy n1 n2 hX hY hZ ep em
  grind
abbrev e5l(d:Nat→Int)(p q r:R4):Prop:=∀W,Calls Tryz.prog 57 #[nu d,p.v,q.v] W fun e w'=>e= .returned r.v∧Kept [] W w'
set_option maxHeartbeats 4000000 in
theorem e1j{dc:Nat→Int}{p q:R4}{P Q:Ed.Pt}(hD:Dq 70000 dc Ed.D)(hp:Rr p P)(hq:Rr q Q):∃r,e5l dc p q r∧Rr r (P + Q):=by
 obtain⟨pX,pY,pZ,px,py,pz,p0,p1,p2⟩:=hp.e
 obtain⟨qX,qY,qZ,qx,qy,qz,q0,q1,q2⟩:=hq.e
 obtain⟨d1,c1,h1⟩:=a1s pz qz (by omega) (by omega)
 obtain⟨d2,c2,h2⟩:=a1s h1 h1 (by omega) (by omega)
 obtain⟨d3,c3,h3⟩:=a1s px qx (by omega) (by omega)
 obtain⟨d4,c4,h4⟩:=a1s py qy (by omega) (by omega)
 obtain⟨d5,c5,h5⟩:=a1s h3 h4 (by omega) (by omega)
 obtain⟨d6,c6,h6⟩:=a1s hD h5 (by omega) (by omega)
 obtain⟨d7,c7,h7⟩:=a1s px qy (by omega) (by omega)
 obtain⟨d8,c8,h8⟩:=a1s py qx (by omega) (by omega)
 obtain⟨d9,c9,h9⟩:=b2g h7 h8 (by omega) (by omega)
 obtain⟨d10,c10,h10⟩:=b2g h4 h3 (by omega) (by omega)
 obtain⟨d11,c11,h11⟩:=b2g h2 h6 (by omega) (by omega)
 obtain⟨d12,c12,h12⟩:=b1e h2 h6 (by omega) (by omega)
 obtain⟨d13,c13,h13⟩:=a1s h9 h1 (by omega) (by omega)
 obtain⟨d14,c14,h14⟩:=a1s h13 h12 (by omega) (by omega)
 obtain⟨d15,c15,h15⟩:=a1s h10 h1 (by omega) (by omega)
 obtain⟨d16,c16,h16⟩:=a1s h15 h11 (by omega) (by omega)
 obtain⟨d17,c17,h17⟩:=a1s h11 h12 (by omega) (by omega)
 obtain⟨R18,hR18⟩:∃R:R4,R=(R4.mk d14 d16 d17 zd):=⟨_,rfl⟩
 have bu18:Tryz.prog.built 85 [(0,nu d14),(1,nu d16),(2,nu d17)]=some R18.c.toArray:=by rw [hR18];exact d4v _ _ _
 have hRr:Rr R18 (P + Q):=by
  rw [hR18]
  exact c9g p0 p1 p2 q0 q1 q2 h14 h16 h17
 clear hR18
 refine⟨R18,?_,hRr⟩
 clear hRr
 intro w
 replace c1:=hjd c1
 replace c2:=hjd c2
 replace c3:=hjd c3
 replace c4:=hjd c4
 replace c5:=hjd c5
 replace c6:=hjd c6
 replace c7:=hjd c7
 replace c8:=hjd c8
 replace c9:=hjd c9
 replace c10:=hjd c10
 replace c11:=hjd c11
 replace c12:=hjd c12
 replace c13:=hjd c13
 replace c14:=hjd c14
 replace c15:=hjd c15
 replace c16:=hjd c16
 replace c17:=hjd c17
 replace bu18:=hjd bu18
 clear hD hp hq px py pz p0 p1 p2 qx qy qz q0 q1 q2 h1 h2 h3 h4 h5 h6 h7 h8 h9 h10 h11 h12 h13 h14 h15 h16 h17
 go_enter Tryz.func57,Tryz.ntmps57
 have t:=hjd (Pm.none w)
 go_wp2_with (first
  | ((with_reducible refine a0m (o:=⟨some 3,_,_,_,_,_⟩) (v:=nu dc) rfl (.tmp 0) rfl rfl ?_);intro g3 w3 m3;have N3:=hjd (fun p hp=>m3.ne (t.out.s p hp).lt);have L3:=hjd (Nat.le_trans t.out.k.size m3.le);replace t:=hjd ((t.out.kept m3.kept).cons (show Blk w3 g3 29 (iv (fam 16 dc)).toArray from m3.blk));clear m3)
  | ((with_reducible refine a0m (o:=⟨some 4,_,_,_,_,_⟩) (v:=p.v) rfl (.tmp 1) rfl rfl ?_);intro g4 w4 m4;have N4:=hjd (fun p hp=>m4.ne (t.out.s p hp).lt);have L4:=hjd (Nat.le_trans t.out.k.size m4.le);replace t:=hjd ((t.out.kept m4.kept).cons (show Blk w4 g4 85 p.c.toArray from m4.blk));clear m4)
  | ((with_reducible refine a0m (o:=⟨some 5,_,_,_,_,_⟩) (v:=q.v) rfl (.tmp 2) rfl rfl ?_);intro g5 w5 m5;have N5:=hjd (fun p hp=>m5.ne (t.out.s p hp).lt);have L5:=hjd (Nat.le_trans t.out.k.size m5.le);replace t:=hjd ((t.out.kept m5.kept).cons (show Blk w5 g5 85 q.c.toArray from m5.blk));clear m5)
  | ((with_reducible refine a0f (o:=⟨some 6,_,_,_,_,_⟩) rfl rfl b5x ?_);intro g6 w6 m6;have N6:=hjd (fun p hp=>m6.ne (t.out.s p hp).lt);have L6:=hjd (Nat.le_trans t.out.k.size m6.le);replace t:=hjd ((t.out.kept m6.kept).cons (show Blk w6 g6 85 rz.c.toArray from m6.blk));clear m6)
  | (with_reducible refine a1h (o:=⟨some 15,_,_,_,_,_⟩) a1c.row rfl (.tmp 14) rfl rfl (R4.pz (t.out.s (g4,85,p.c.toArray) (by simp))) (b1p _) ?_)
  | (with_reducible refine a1h (o:=⟨some 17,_,_,_,_,_⟩) a1c.row rfl (.tmp 16) rfl rfl (R4.pz (t.out.s (g5,85,q.c.toArray) (by simp))) (b1p _) ?_)
  | (go_at_call 84;(with_reducible refine(c1.out _).mono ?_);rintro e v ⟨rfl,kk⟩;replace t:=hjd (t.out.kept kk);clear kk)
  | ((with_reducible refine a0f (o:=⟨some 7,_,_,_,_,_⟩) rfl rfl a2i ?_);intro g7 w7 m7;have N7:=hjd (fun p hp=>m7.ne (t.out.s p hp).lt);have L7:=hjd (Nat.le_trans t.out.k.size m7.le);replace t:=hjd ((t.out.kept m7.kept).cons (show Blk w7 g7 27 (iv (fam 16 zd)).toArray from m7.blk));clear m7)
  | ((refine a0b (o:=⟨none,.store 27 (.tmp 7) (.tmp 18),_,_,_,_⟩) a1c.row rfl (.tmp 7) (.tmp 18) rfl rfl rfl (t.out.s (g7,27,(iv (fam 16 zd)).toArray) (by simp)) rfl rfl (a1j _) ?_);intro v7 b7 k7;replace t:=hjd (t.out.again L7.out N7.out b7 k7);clear b7 k7)
  | (with_reducible refine a0a (o:=⟨some 19,_,_,_,_,_⟩) a1c.row rfl (.tmp 7) rfl rfl (t.out.s (g7,27,(iv (fam 16 d1)).toArray) (by simp)) rfl ?_)
  | (with_reducible refine a0a (o:=⟨some 20,_,_,_,_,_⟩) a1c.row rfl (.tmp 7) rfl rfl (t.out.s (g7,27,(iv (fam 16 d1)).toArray) (by simp)) rfl ?_)
  | (go_at_call 84;(with_reducible refine(c2.out _).mono ?_);rintro e v ⟨rfl,kk⟩;replace t:=hjd (t.out.kept kk);clear kk)
  | ((with_reducible refine a0f (o:=⟨some 8,_,_,_,_,_⟩) rfl rfl a2i ?_);intro g8 w8 m8;have N8:=hjd (fun p hp=>m8.ne (t.out.s p hp).lt);have L8:=hjd (Nat.le_trans t.out.k.size m8.le);replace t:=hjd ((t.out.kept m8.kept).cons (show Blk w8 g8 27 (iv (fam 16 zd)).toArray from m8.blk));clear m8)
  | ((refine a0b (o:=⟨none,.store 27 (.tmp 8) (.tmp 21),_,_,_,_⟩) a1c.row rfl (.tmp 8) (.tmp 21) rfl rfl rfl (t.out.s (g8,27,(iv (fam 16 zd)).toArray) (by simp)) rfl rfl (a1j _) ?_);intro v8 b8 k8;replace t:=hjd (t.out.again L8.out N8.out b8 k8);clear b8 k8))
 refine a1b (by kernel_rfl) [.val (.pointer (some ⟨g3,0,none⟩)),.val (nu dc),.val (.pointer (some ⟨g4,0,none⟩)),.val (nu p.x),.val (.pointer (some ⟨g5,0,none⟩)),.val (nu q.x),.val (nu d3),.val (.pointer (some ⟨g4,16,none⟩)),.val (nu p.y),.val (.pointer (some ⟨g5,16,none⟩)),.val (nu q.y),.val (nu d4),.val (nu d5),.val (nu d6),.new 27 (nu zd),.put 14 13 (iv (fam 16 d6)).toArray]
  (Pm w [(g8,27,(iv (fam 16 d2)).toArray),(g7,27,(iv (fam 16 d1)).toArray),(g6,85,rz.c.toArray),(g5,85,q.c.toArray),(g4,85,p.c.toArray),(g3,29,(iv (fam 16 dc)).toArray)]) (by kernel_rfl) (by kernel_rfl) t.out.drew (fun u u' T hS hk hT=>t.out.fresh u u' T hS hk hT) ?_ ?_
 ·refine⟨?_,?_,?_,?_,?_,?_,?_,?_,?_,?_,?_,?_,?_,?_,⟨⟨_,rfl⟩,rfl,a2i⟩,?_,trivial⟩
  ·exact⟨⟨_,rfl⟩,fun a' u K0 R hS hr ho h=>a1d (.tmp 3) rfl ((ho 3 (by decide)).trans rfl) (cfa0 g3) (h u (Kept.refl _ _))⟩
  ·exact⟨⟨_,rfl⟩,fun a' u K0 R hS hr ho h=>a1i a1c.row (.tmp 22) rfl (hr 0 _ 22 _ rfl rfl rfl ⟨⟨0,.data⟩,by simp,rfl,rfl⟩) (e7q (hS.s (g3,29,(iv (fam 16 dc)).toArray) (by simp))) (b1p _) (h u (Kept.refl _ _))⟩
  ·exact⟨⟨_,rfl⟩,fun a' u K0 R hS hr ho h=>a1d (.tmp 4) rfl ((ho 4 (by decide)).trans rfl) (e7t g4) (h u (Kept.refl _ _))⟩
  ·exact⟨⟨_,rfl⟩,fun a' u K0 R hS hr ho h=>a1i a1c.row (.tmp 24) rfl (hr 2 _ 24 _ rfl rfl rfl ⟨⟨2,.data⟩,by simp,rfl,rfl⟩) (R4.px (hS.s (g4,85,p.c.toArray) (by simp))) (b1p _) (h u (Kept.refl _ _))⟩
  ·exact⟨⟨_,rfl⟩,fun a' u K0 R hS hr ho h=>a1d (.tmp 5) rfl ((ho 5 (by decide)).trans rfl) (e7t g5) (h u (Kept.refl _ _))⟩
  ·exact⟨⟨_,rfl⟩,fun a' u K0 R hS hr ho h=>a1i a1c.row (.tmp 26) rfl (hr 4 _ 26 _ rfl rfl rfl ⟨⟨4,.data⟩,by simp,rfl,rfl⟩) (R4.px (hS.s (g5,85,q.c.toArray) (by simp))) (b1p _) (h u (Kept.refl _ _))⟩
  ·refine⟨⟨_,rfl⟩,fun a' u K0 R hS hr ho h=>a0e rfl a0u (vs:=#[nu p.x,nu q.x]) ?_ (c3.out u) h⟩
   have x0:=hr 3 (nu p.x) 25 _ rfl rfl rfl ⟨⟨3,.data⟩,by simp,rfl,rfl⟩
   have x1:=hr 5 (nu q.x) 27 _ rfl rfl rfl ⟨⟨5,.data⟩,by simp,rfl,rfl⟩
   simp [Act.eval]at x0 x1 ⊢
   exact⟨x0,x1⟩
  ·exact⟨⟨_,rfl⟩,fun a' u K0 R hS hr ho h=>a1d (.tmp 4) rfl ((ho 4 (by decide)).trans rfl) (e7b g4) (h u (Kept.refl _ _))⟩
  ·exact⟨⟨_,rfl⟩,fun a' u K0 R hS hr ho h=>a1i a1c.row (.tmp 29) rfl (hr 7 _ 29 _ rfl rfl rfl ⟨⟨7,.data⟩,by simp,rfl,rfl⟩) (R4.py (hS.s (g4,85,p.c.toArray) (by simp))) (b1p _) (h u (Kept.refl _ _))⟩
  ·exact⟨⟨_,rfl⟩,fun a' u K0 R hS hr ho h=>a1d (.tmp 5) rfl ((ho 5 (by decide)).trans rfl) (e7b g5) (h u (Kept.refl _ _))⟩
  ·exact⟨⟨_,rfl⟩,fun a' u K0 R hS hr ho h=>a1i a1c.row (.tmp 31) rfl (hr 9 _ 31 _ rfl rfl rfl ⟨⟨9,.data⟩,by simp,rfl,rfl⟩) (R4.py (hS.s (g5,85,q.c.toArray) (by simp))) (b1p _) (h u (Kept.refl _ _))⟩
  ·refine⟨⟨_,rfl⟩,fun a' u K0 R hS hr ho h=>a0e rfl a0u (vs:=#[nu p.y,nu q.y]) ?_ (c4.out u) h⟩
   have x0:=hr 8 (nu p.y) 30 _ rfl rfl rfl ⟨⟨8,.data⟩,by simp,rfl,rfl⟩
   have x1:=hr 10 (nu q.y) 32 _ rfl rfl rfl ⟨⟨10,.data⟩,by simp,rfl,rfl⟩
   simp [Act.eval]at x0 x1 ⊢
   exact⟨x0,x1⟩
  ·refine⟨⟨_,rfl⟩,fun a' u K0 R hS hr ho h=>a0e rfl a0u (vs:=#[nu d3,nu d4]) ?_ (c5.out u) h⟩
   have x0:=hr 6 (nu d3) 28 _ rfl rfl rfl ⟨⟨6,.data⟩,by simp,rfl,rfl⟩
   have x1:=hr 11 (nu d4) 33 _ rfl rfl rfl ⟨⟨11,.data⟩,by simp,rfl,rfl⟩
   simp [Act.eval]at x0 x1 ⊢
   exact⟨x0,x1⟩
  ·refine⟨⟨_,rfl⟩,fun a' u K0 R hS hr ho h=>a0e rfl a0u (vs:=#[nu dc,nu d5]) ?_ (c6.out u) h⟩
   have x0:=hr 1 (nu dc) 23 _ rfl rfl rfl ⟨⟨1,.data⟩,by simp,rfl,rfl⟩
   have x1:=hr 12 (nu d5) 34 _ rfl rfl rfl ⟨⟨12,.data⟩,by simp,rfl,rfl⟩
   simp [Act.eval]at x0 x1 ⊢
   exact⟨x0,x1⟩
  ·exact⟨rfl,⟨⟨14,.data⟩,by simp,rfl,rfl⟩,⟨⟨13,.data⟩,by simp,rfl,rfl⟩,_,_,_,_,_,_,_,_,rfl,rfl,rfl,rfl,rfl,rfl,rfl,a1c.row,rfl,rfl,a1j _⟩
 intro γ wm hS hγ hne hput
 have b9:=hput 15 14 13 _ _ _ rfl rfl
 have hf9:=hγ 14 _ _ rfl
 generalize e9:γ 14=g9 at *
 simp [a0w,VK,List.range,List.range.loop,Act.put,e9]
 have N9:=hjd (fun p hp=>Nat.ne_of_lt (Nat.lt_of_lt_of_le (t.out.s p hp).lt hf9))
 have L9:=hjd (Nat.le_trans t.out.k.size hf9)
 replace t:=hjd (show Pm w [(g9,27,(iv (fam 16 d6)).toArray),(g8,27,(iv (fam 16 d2)).toArray),(g7,27,(iv (fam 16 d1)).toArray),(g6,85,rz.c.toArray),(g5,85,q.c.toArray),(g4,85,p.c.toArray),(g3,29,(iv (fam 16 dc)).toArray)] wm from(hS).cons b9)
 clear b9 hf9 hput hne hγ hS e9
 go_wp2_with fail
 refine a1b (by kernel_rfl) [.val (.pointer (some ⟨g4,0,none⟩)),.val (nu p.x),.val (.pointer (some ⟨g5,16,none⟩)),.val (nu q.y),.val (nu d7),.val (.pointer (some ⟨g4,16,none⟩)),.val (nu p.y),.val (.pointer (some ⟨g5,0,none⟩)),.val (nu q.x),.val (nu d8),.val (nu d9),.new 27 (nu zd),.put 11 10 (iv (fam 16 d9)).toArray]
  (Pm w [(g9,27,(iv (fam 16 d6)).toArray),(g8,27,(iv (fam 16 d2)).toArray),(g7,27,(iv (fam 16 d1)).toArray),(g6,85,rz.c.toArray),(g5,85,q.c.toArray),(g4,85,p.c.toArray),(g3,29,(iv (fam 16 dc)).toArray)]) (by kernel_rfl) (by kernel_rfl) t.out.drew (fun u u' T hS hk hT=>t.out.fresh u u' T hS hk hT) ?_ ?_
 ·refine⟨?_,?_,?_,?_,?_,?_,?_,?_,?_,?_,?_,⟨⟨_,rfl⟩,rfl,a2i⟩,?_,trivial⟩
  ·exact⟨⟨_,rfl⟩,fun a' u K0 R hS hr ho h=>a1d (.tmp 4) rfl ((ho 4 (by decide)).trans rfl) (e7t g4) (h u (Kept.refl _ _))⟩
  ·exact⟨⟨_,rfl⟩,fun a' u K0 R hS hr ho h=>a1i a1c.row (.tmp 36) rfl (hr 0 _ 36 _ rfl rfl rfl ⟨⟨0,.data⟩,by simp,rfl,rfl⟩) (R4.px (hS.s (g4,85,p.c.toArray) (by simp))) (b1p _) (h u (Kept.refl _ _))⟩
  ·exact⟨⟨_,rfl⟩,fun a' u K0 R hS hr ho h=>a1d (.tmp 5) rfl ((ho 5 (by decide)).trans rfl) (e7b g5) (h u (Kept.refl _ _))⟩
  ·exact⟨⟨_,rfl⟩,fun a' u K0 R hS hr ho h=>a1i a1c.row (.tmp 38) rfl (hr 2 _ 38 _ rfl rfl rfl ⟨⟨2,.data⟩,by simp,rfl,rfl⟩) (R4.py (hS.s (g5,85,q.c.toArray) (by simp))) (b1p _) (h u (Kept.refl _ _))⟩
  ·refine⟨⟨_,rfl⟩,fun a' u K0 R hS hr ho h=>a0e rfl a0u (vs:=#[nu p.x,nu q.y]) ?_ (c7.out u) h⟩
   have x0:=hr 1 (nu p.x) 37 _ rfl rfl rfl ⟨⟨1,.data⟩,by simp,rfl,rfl⟩
   have x1:=hr 3 (nu q.y) 39 _ rfl rfl rfl ⟨⟨3,.data⟩,by simp,rfl,rfl⟩
   simp [Act.eval]at x0 x1 ⊢
   exact⟨x0,x1⟩
  ·exact⟨⟨_,rfl⟩,fun a' u K0 R hS hr ho h=>a1d (.tmp 4) rfl ((ho 4 (by decide)).trans rfl) (e7b g4) (h u (Kept.refl _ _))⟩
  ·exact⟨⟨_,rfl⟩,fun a' u K0 R hS hr ho h=>a1i a1c.row (.tmp 41) rfl (hr 5 _ 41 _ rfl rfl rfl ⟨⟨5,.data⟩,by simp,rfl,rfl⟩) (R4.py (hS.s (g4,85,p.c.toArray) (by simp))) (b1p _) (h u (Kept.refl _ _))⟩
  ·exact⟨⟨_,rfl⟩,fun a' u K0 R hS hr ho h=>a1d (.tmp 5) rfl ((ho 5 (by decide)).trans rfl) (e7t g5) (h u (Kept.refl _ _))⟩
  ·exact⟨⟨_,rfl⟩,fun a' u K0 R hS hr ho h=>a1i a1c.row (.tmp 43) rfl (hr 7 _ 43 _ rfl rfl rfl ⟨⟨7,.data⟩,by simp,rfl,rfl⟩) (R4.px (hS.s (g5,85,q.c.toArray) (by simp))) (b1p _) (h u (Kept.refl _ _))⟩
  ·refine⟨⟨_,rfl⟩,fun a' u K0 R hS hr ho h=>a0e rfl a0u (vs:=#[nu p.y,nu q.x]) ?_ (c8.out u) h⟩
   have x0:=hr 6 (nu p.y) 42 _ rfl rfl rfl ⟨⟨6,.data⟩,by simp,rfl,rfl⟩
   have x1:=hr 8 (nu q.x) 44 _ rfl rfl rfl ⟨⟨8,.data⟩,by simp,rfl,rfl⟩
   simp [Act.eval]at x0 x1 ⊢
   exact⟨x0,x1⟩
  ·refine⟨⟨_,rfl⟩,fun a' u K0 R hS hr ho h=>a0e rfl a9m (vs:=#[nu d7,nu d8]) ?_ (c9.out u) h⟩
   have x0:=hr 4 (nu d7) 40 _ rfl rfl rfl ⟨⟨4,.data⟩,by simp,rfl,rfl⟩
   have x1:=hr 9 (nu d8) 45 _ rfl rfl rfl ⟨⟨9,.data⟩,by simp,rfl,rfl⟩
   simp [Act.eval]at x0 x1 ⊢
   exact⟨x0,x1⟩
  ·exact⟨rfl,⟨⟨11,.data⟩,by simp,rfl,rfl⟩,⟨⟨10,.data⟩,by simp,rfl,rfl⟩,_,_,_,_,_,_,_,_,rfl,rfl,rfl,rfl,rfl,rfl,rfl,a1c.row,rfl,rfl,a1j _⟩
 intro γ wm hS hγ hne hput
 have b10:=hput 12 11 10 _ _ _ rfl rfl
 have hf10:=hγ 11 _ _ rfl
 generalize e10:γ 11=g10 at *
 simp [a0w,VK,List.range,List.range.loop,Act.put,e10]
 have N10:=hjd (fun p hp=>Nat.ne_of_lt (Nat.lt_of_lt_of_le (t.out.s p hp).lt hf10))
 have L10:=hjd (Nat.le_trans t.out.k.size hf10)
 replace t:=hjd (show Pm w [(g10,27,(iv (fam 16 d9)).toArray),(g9,27,(iv (fam 16 d6)).toArray),(g8,27,(iv (fam 16 d2)).toArray),(g7,27,(iv (fam 16 d1)).toArray),(g6,85,rz.c.toArray),(g5,85,q.c.toArray),(g4,85,p.c.toArray),(g3,29,(iv (fam 16 dc)).toArray)] wm from(hS).cons b10)
 clear b10 hf10 hput hne hγ hS e10
 go_wp2_with fail
 refine a1b (by kernel_rfl) [.val (.pointer (some ⟨g4,16,none⟩)),.val (nu p.y),.val (.pointer (some ⟨g5,16,none⟩)),.val (nu q.y),.val (nu d4),.val (.pointer (some ⟨g4,0,none⟩)),.val (nu p.x),.val (.pointer (some ⟨g5,0,none⟩)),.val (nu q.x),.val (nu d3),.val (nu d10),.new 27 (nu zd),.put 11 10 (iv (fam 16 d10)).toArray]
  (Pm w [(g10,27,(iv (fam 16 d9)).toArray),(g9,27,(iv (fam 16 d6)).toArray),(g8,27,(iv (fam 16 d2)).toArray),(g7,27,(iv (fam 16 d1)).toArray),(g6,85,rz.c.toArray),(g5,85,q.c.toArray),(g4,85,p.c.toArray),(g3,29,(iv (fam 16 dc)).toArray)]) (by kernel_rfl) (by kernel_rfl) t.out.drew (fun u u' T hS hk hT=>t.out.fresh u u' T hS hk hT) ?_ ?_
 ·refine⟨?_,?_,?_,?_,?_,?_,?_,?_,?_,?_,?_,⟨⟨_,rfl⟩,rfl,a2i⟩,?_,trivial⟩
  ·exact⟨⟨_,rfl⟩,fun a' u K0 R hS hr ho h=>a1d (.tmp 4) rfl ((ho 4 (by decide)).trans rfl) (e7b g4) (h u (Kept.refl _ _))⟩
  ·exact⟨⟨_,rfl⟩,fun a' u K0 R hS hr ho h=>a1i a1c.row (.tmp 47) rfl (hr 0 _ 47 _ rfl rfl rfl ⟨⟨0,.data⟩,by simp,rfl,rfl⟩) (R4.py (hS.s (g4,85,p.c.toArray) (by simp))) (b1p _) (h u (Kept.refl _ _))⟩
  ·exact⟨⟨_,rfl⟩,fun a' u K0 R hS hr ho h=>a1d (.tmp 5) rfl ((ho 5 (by decide)).trans rfl) (e7b g5) (h u (Kept.refl _ _))⟩
  ·exact⟨⟨_,rfl⟩,fun a' u K0 R hS hr ho h=>a1i a1c.row (.tmp 49) rfl (hr 2 _ 49 _ rfl rfl rfl ⟨⟨2,.data⟩,by simp,rfl,rfl⟩) (R4.py (hS.s (g5,85,q.c.toArray) (by simp))) (b1p _) (h u (Kept.refl _ _))⟩
  ·refine⟨⟨_,rfl⟩,fun a' u K0 R hS hr ho h=>a0e rfl a0u (vs:=#[nu p.y,nu q.y]) ?_ (c4.out u) h⟩
   have x0:=hr 1 (nu p.y) 48 _ rfl rfl rfl ⟨⟨1,.data⟩,by simp,rfl,rfl⟩
   have x1:=hr 3 (nu q.y) 50 _ rfl rfl rfl ⟨⟨3,.data⟩,by simp,rfl,rfl⟩
   simp [Act.eval]at x0 x1 ⊢
   exact⟨x0,x1⟩
  ·exact⟨⟨_,rfl⟩,fun a' u K0 R hS hr ho h=>a1d (.tmp 4) rfl ((ho 4 (by decide)).trans rfl) (e7t g4) (h u (Kept.refl _ _))⟩
  ·exact⟨⟨_,rfl⟩,fun a' u K0 R hS hr ho h=>a1i a1c.row (.tmp 52) rfl (hr 5 _ 52 _ rfl rfl rfl ⟨⟨5,.data⟩,by simp,rfl,rfl⟩) (R4.px (hS.s (g4,85,p.c.toArray) (by simp))) (b1p _) (h u (Kept.refl _ _))⟩
  ·exact⟨⟨_,rfl⟩,fun a' u K0 R hS hr ho h=>a1d (.tmp 5) rfl ((ho 5 (by decide)).trans rfl) (e7t g5) (h u (Kept.refl _ _))⟩
  ·exact⟨⟨_,rfl⟩,fun a' u K0 R hS hr ho h=>a1i a1c.row (.tmp 54) rfl (hr 7 _ 54 _ rfl rfl rfl ⟨⟨7,.data⟩,by simp,rfl,rfl⟩) (R4.px (hS.s (g5,85,q.c.toArray) (by simp))) (b1p _) (h u (Kept.refl _ _))⟩
  ·refine⟨⟨_,rfl⟩,fun a' u K0 R hS hr ho h=>a0e rfl a0u (vs:=#[nu p.x,nu q.x]) ?_ (c3.out u) h⟩
   have x0:=hr 6 (nu p.x) 53 _ rfl rfl rfl ⟨⟨6,.data⟩,by simp,rfl,rfl⟩
   have x1:=hr 8 (nu q.x) 55 _ rfl rfl rfl ⟨⟨8,.data⟩,by simp,rfl,rfl⟩
   simp [Act.eval]at x0 x1 ⊢
   exact⟨x0,x1⟩
  ·refine⟨⟨_,rfl⟩,fun a' u K0 R hS hr ho h=>a0e rfl a9m (vs:=#[nu d4,nu d3]) ?_ (c10.out u) h⟩
   have x0:=hr 4 (nu d4) 51 _ rfl rfl rfl ⟨⟨4,.data⟩,by simp,rfl,rfl⟩
   have x1:=hr 9 (nu d3) 56 _ rfl rfl rfl ⟨⟨9,.data⟩,by simp,rfl,rfl⟩
   simp [Act.eval]at x0 x1 ⊢
   exact⟨x0,x1⟩
  ·exact⟨rfl,⟨⟨11,.data⟩,by simp,rfl,rfl⟩,⟨⟨10,.data⟩,by simp,rfl,rfl⟩,_,_,_,_,_,_,_,_,rfl,rfl,rfl,rfl,rfl,rfl,rfl,a1c.row,rfl,rfl,a1j _⟩
 intro γ wm hS hγ hne hput
 have b11:=hput 12 11 10 _ _ _ rfl rfl
 have hf11:=hγ 11 _ _ rfl
 generalize e11:γ 11=g11 at *
 simp [a0w,VK,List.range,List.range.loop,Act.put,e11]
 have N11:=hjd (fun p hp=>Nat.ne_of_lt (Nat.lt_of_lt_of_le (t.out.s p hp).lt hf11))
 have L11:=hjd (Nat.le_trans t.out.k.size hf11)
 replace t:=hjd (show Pm w [(g11,27,(iv (fam 16 d10)).toArray),(g10,27,(iv (fam 16 d9)).toArray),(g9,27,(iv (fam 16 d6)).toArray),(g8,27,(iv (fam 16 d2)).toArray),(g7,27,(iv (fam 16 d1)).toArray),(g6,85,rz.c.toArray),(g5,85,q.c.toArray),(g4,85,p.c.toArray),(g3,29,(iv (fam 16 dc)).toArray)] wm from(hS).cons b11)
 clear b11 hf11 hput hne hγ hS e11
 go_wp2_with fail
 refine a1b (by kernel_rfl) [.val (nu d2),.val (nu d6),.val (nu d11),.val (nu d2),.val (nu d6),.val (nu d12),.new 27 (nu zd),.new 27 (nu zd),.put 6 2 (iv (fam 16 d11)).toArray,.put 7 5 (iv (fam 16 d12)).toArray]
  (Pm w [(g11,27,(iv (fam 16 d10)).toArray),(g10,27,(iv (fam 16 d9)).toArray),(g9,27,(iv (fam 16 d6)).toArray),(g8,27,(iv (fam 16 d2)).toArray),(g7,27,(iv (fam 16 d1)).toArray),(g6,85,rz.c.toArray),(g5,85,q.c.toArray),(g4,85,p.c.toArray),(g3,29,(iv (fam 16 dc)).toArray)]) (by kernel_rfl) (by kernel_rfl) t.out.drew (fun u u' T hS hk hT=>t.out.fresh u u' T hS hk hT) ?_ ?_
 ·refine⟨?_,?_,?_,?_,?_,?_,⟨⟨_,rfl⟩,rfl,a2i⟩,⟨⟨_,rfl⟩,rfl,a2i⟩,?_,?_,trivial⟩
  ·exact⟨⟨_,rfl⟩,fun a' u K0 R hS hr ho h=>a0g a1c.row (.tmp 8) rfl ((ho 8 (by decide)).trans rfl) (hS.s (g8,27,(iv (fam 16 d2)).toArray) (by simp)) rfl (h u (Kept.refl _ _))⟩
  ·exact⟨⟨_,rfl⟩,fun a' u K0 R hS hr ho h=>a0g a1c.row (.tmp 9) rfl ((ho 9 (by decide)).trans rfl) (hS.s (g9,27,(iv (fam 16 d6)).toArray) (by simp)) rfl (h u (Kept.refl _ _))⟩
  ·refine⟨⟨_,rfl⟩,fun a' u K0 R hS hr ho h=>a0e rfl a9m (vs:=#[nu d2,nu d6]) ?_ (c11.out u) h⟩
   have x0:=hr 0 (nu d2) 58 _ rfl rfl rfl ⟨⟨0,.data⟩,by simp,rfl,rfl⟩
   have x1:=hr 1 (nu d6) 59 _ rfl rfl rfl ⟨⟨1,.data⟩,by simp,rfl,rfl⟩
   simp [Act.eval]at x0 x1 ⊢
   exact⟨x0,x1⟩
  ·exact⟨⟨_,rfl⟩,fun a' u K0 R hS hr ho h=>a0g a1c.row (.tmp 8) rfl ((ho 8 (by decide)).trans rfl) (hS.s (g8,27,(iv (fam 16 d2)).toArray) (by simp)) rfl (h u (Kept.refl _ _))⟩
  ·exact⟨⟨_,rfl⟩,fun a' u K0 R hS hr ho h=>a0g a1c.row (.tmp 9) rfl ((ho 9 (by decide)).trans rfl) (hS.s (g9,27,(iv (fam 16 d6)).toArray) (by simp)) rfl (h u (Kept.refl _ _))⟩
  ·refine⟨⟨_,rfl⟩,fun a' u K0 R hS hr ho h=>a0e rfl a3t (vs:=#[nu d2,nu d6]) ?_ (c12.out u) h⟩
   have x0:=hr 3 (nu d2) 61 _ rfl rfl rfl ⟨⟨3,.data⟩,by simp,rfl,rfl⟩
   have x1:=hr 4 (nu d6) 62 _ rfl rfl rfl ⟨⟨4,.data⟩,by simp,rfl,rfl⟩
   simp [Act.eval]at x0 x1 ⊢
   exact⟨x0,x1⟩
  ·exact⟨rfl,⟨⟨6,.data⟩,by simp,rfl,rfl⟩,⟨⟨2,.data⟩,by simp,rfl,rfl⟩,_,_,_,_,_,_,_,_,rfl,rfl,rfl,rfl,rfl,rfl,rfl,a1c.row,rfl,rfl,a1j _⟩
  ·exact⟨rfl,⟨⟨7,.data⟩,by simp,rfl,rfl⟩,⟨⟨5,.data⟩,by simp,rfl,rfl⟩,_,_,_,_,_,_,_,_,rfl,rfl,rfl,rfl,rfl,rfl,rfl,a1c.row,rfl,rfl,a1j _⟩
 intro γ wm hS hγ hne hput
 have b12:=hput 8 6 2 _ _ _ rfl rfl
 have b13:=hput 9 7 5 _ _ _ rfl rfl
 have hf12:=hγ 6 _ _ rfl
 have hf13:=hγ 7 _ _ rfl
 generalize e12:γ 6=g12 at *
 generalize e13:γ 7=g13 at *
 simp [a0w,VK,List.range,List.range.loop,Act.put,e12,e13]
 replace t:=hjd (show Pm w [(g13,27,(iv (fam 16 d12)).toArray),(g12,27,(iv (fam 16 d11)).toArray),(g11,27,(iv (fam 16 d10)).toArray),(g10,27,(iv (fam 16 d9)).toArray),(g9,27,(iv (fam 16 d6)).toArray),(g8,27,(iv (fam 16 d2)).toArray),(g7,27,(iv (fam 16 d1)).toArray),(g6,85,rz.c.toArray),(g5,85,q.c.toArray),(g4,85,p.c.toArray),(g3,29,(iv (fam 16 dc)).toArray)] wm from((hS).cons b12).cons b13)
 clear b12 hf12 b13 hf13 hput hne hγ hS e12 e13
 go_wp2_with fail
 refine a3o (by kernel_rfl) [nu d9,nu d1,nu d13,nu d12,nu d14,nu d10,nu d1,nu d15,nu d11,nu d16,nu d11,nu d12,nu d17,R18.v]
  (Pm w [(g13,27,(iv (fam 16 d12)).toArray),(g12,27,(iv (fam 16 d11)).toArray),(g11,27,(iv (fam 16 d10)).toArray),(g10,27,(iv (fam 16 d9)).toArray),(g9,27,(iv (fam 16 d6)).toArray),(g8,27,(iv (fam 16 d2)).toArray),(g7,27,(iv (fam 16 d1)).toArray),(g6,85,rz.c.toArray),(g5,85,q.c.toArray),(g4,85,p.c.toArray),(g3,29,(iv (fam 16 dc)).toArray)]) (by kernel_rfl) rfl rfl (by kernel_rfl) t.out.drew (fun u u' h hk=>h.kept hk) ?_ ?_
 ·refine⟨?_,?_,?_,?_,?_,?_,?_,?_,?_,?_,?_,?_,?_,?_,trivial⟩
  ·exact fun a' u K0 R hS hr ho h=>a0g a1c.row (.tmp 10) rfl ((ho 10 (by decide)).trans rfl) (hS.s (g10,27,(iv (fam 16 d9)).toArray) (by simp)) rfl (h u (Kept.refl _ _))
  ·exact fun a' u K0 R hS hr ho h=>a0g a1c.row (.tmp 7) rfl ((ho 7 (by decide)).trans rfl) (hS.s (g7,27,(iv (fam 16 d1)).toArray) (by simp)) rfl (h u (Kept.refl _ _))
  ·refine fun a' u K0 R hS hr ho h=>a0e rfl a0u (vs:=#[nu d9,nu d1]) ?_ (c13.out u) h
   have x0:=hr 0 (nu d9) 64 _ rfl rfl rfl ⟨⟨0,.data⟩,by simp,rfl,rfl⟩
   have x1:=hr 1 (nu d1) 65 _ rfl rfl rfl ⟨⟨1,.data⟩,by simp,rfl,rfl⟩
   simp [Act.eval]at x0 x1 ⊢
   exact⟨x0,x1⟩
  ·exact fun a' u K0 R hS hr ho h=>a0g a1c.row (.tmp 13) rfl ((ho 13 (by decide)).trans rfl) (hS.s (g13,27,(iv (fam 16 d12)).toArray) (by simp)) rfl (h u (Kept.refl _ _))
  ·refine fun a' u K0 R hS hr ho h=>a0e rfl a0u (vs:=#[nu d13,nu d12]) ?_ (c14.out u) h
   have x0:=hr 2 (nu d13) 66 _ rfl rfl rfl ⟨⟨2,.data⟩,by simp,rfl,rfl⟩
   have x1:=hr 3 (nu d12) 67 _ rfl rfl rfl ⟨⟨3,.data⟩,by simp,rfl,rfl⟩
   simp [Act.eval]at x0 x1 ⊢
   exact⟨x0,x1⟩
  ·exact fun a' u K0 R hS hr ho h=>a0g a1c.row (.tmp 11) rfl ((ho 11 (by decide)).trans rfl) (hS.s (g11,27,(iv (fam 16 d10)).toArray) (by simp)) rfl (h u (Kept.refl _ _))
  ·exact fun a' u K0 R hS hr ho h=>a0g a1c.row (.tmp 7) rfl ((ho 7 (by decide)).trans rfl) (hS.s (g7,27,(iv (fam 16 d1)).toArray) (by simp)) rfl (h u (Kept.refl _ _))
  ·refine fun a' u K0 R hS hr ho h=>a0e rfl a0u (vs:=#[nu d10,nu d1]) ?_ (c15.out u) h
   have x0:=hr 5 (nu d10) 69 _ rfl rfl rfl ⟨⟨5,.data⟩,by simp,rfl,rfl⟩
   have x1:=hr 6 (nu d1) 70 _ rfl rfl rfl ⟨⟨6,.data⟩,by simp,rfl,rfl⟩
   simp [Act.eval]at x0 x1 ⊢
   exact⟨x0,x1⟩
  ·exact fun a' u K0 R hS hr ho h=>a0g a1c.row (.tmp 12) rfl ((ho 12 (by decide)).trans rfl) (hS.s (g12,27,(iv (fam 16 d11)).toArray) (by simp)) rfl (h u (Kept.refl _ _))
  ·refine fun a' u K0 R hS hr ho h=>a0e rfl a0u (vs:=#[nu d15,nu d11]) ?_ (c16.out u) h
   have x0:=hr 7 (nu d15) 71 _ rfl rfl rfl ⟨⟨7,.data⟩,by simp,rfl,rfl⟩
   have x1:=hr 8 (nu d11) 72 _ rfl rfl rfl ⟨⟨8,.data⟩,by simp,rfl,rfl⟩
   simp [Act.eval]at x0 x1 ⊢
   exact⟨x0,x1⟩
  ·exact fun a' u K0 R hS hr ho h=>a0g a1c.row (.tmp 12) rfl ((ho 12 (by decide)).trans rfl) (hS.s (g12,27,(iv (fam 16 d11)).toArray) (by simp)) rfl (h u (Kept.refl _ _))
  ·exact fun a' u K0 R hS hr ho h=>a0g a1c.row (.tmp 13) rfl ((ho 13 (by decide)).trans rfl) (hS.s (g13,27,(iv (fam 16 d12)).toArray) (by simp)) rfl (h u (Kept.refl _ _))
  ·refine fun a' u K0 R hS hr ho h=>a0e rfl a0u (vs:=#[nu d11,nu d12]) ?_ (c17.out u) h
   have x0:=hr 10 (nu d11) 74 _ rfl rfl rfl ⟨⟨10,.data⟩,by simp,rfl,rfl⟩
   have x1:=hr 11 (nu d12) 75 _ rfl rfl rfl ⟨⟨11,.data⟩,by simp,rfl,rfl⟩
   simp [Act.eval]at x0 x1 ⊢
   exact⟨x0,x1⟩
  ·refine fun a' u K0 R hS hr ho h=>?_
   have x0:=hr 4 (nu d14) 68 _ rfl rfl rfl ⟨⟨4,.data⟩,by simp,rfl,rfl⟩
   have x1:=hr 9 (nu d16) 73 _ rfl rfl rfl ⟨⟨9,.data⟩,by simp,rfl,rfl⟩
   have x2:=hr 12 (nu d17) 76 _ rfl rfl rfl ⟨⟨12,.data⟩,by simp,rfl,rfl⟩
   simp at x0 x1 x2
   exact d9z rfl (by simp [Act.eval,x0,x1,x2]) (bu18.out) (h u (Kept.refl _ _))
 intro ul hSl
 simp [a0w,List.range,List.range.loop,Act.put]
 refine a2p a2k (.tmp 6) (.tmp 77) rfl rfl rfl (hSl.s (g6,85,rz.c.toArray) (by simp)) (R4.size rz) (R4.size R18) (R4.one R18) ?_
 simp [Act.put]
 have bl:=(hSl.s (g6,85,rz.c.toArray) (by simp)).a3b R18.c.toArray
 have kl:Kept [g6] ul (ul.setRow g6 R18.c.toArray):=(Kept.refl [g6] ul).setRow (.inl (by simp)) _
 have bR:=hjd bl
 have kR:=hjd kl
 replace t:=hjd hSl
 clear bl kl hSl
 go_wp2_with fail
 exact a0y a2k rfl rfl bR.out (R4.size _) rfl ⟨rfl,t.out.k.a0n kR.out L6.out⟩
end Go.Proofs.YtdbngnlpafcogaaGreat
namespace Go.Proofs.YtdbngnlpafcogaaGreat
open Go.RowKit Go.Mem Go.Txt
set_option maxHeartbeats 1600000 in
theorem a8d{M N:Int}{d e:Nat→Int}{a b:Ed.Fq}(h:Dq M d a)(h2:Dq N e b)(hM:M≤280000)(hN:N≤280000){r:Bool}(hr:decide (a.v=b.v)=r):ReC d e r:=by
 obtain⟨l1,c1,e1,n1⟩:=a6d h (by omega)
 obtain⟨l2,c2,e2,n2⟩:=a6d h2 (by omega)
 have Q9:(l1 == l2)=r:=by rw [e1,e2,c0p _ _ (b8k a) (b8k b)];exact hr
 have q9:=c2e Q9 n1 n2
 intro w
 replace Q9:=hjd Q9
 replace c1:=hjd c1
 replace c2:=hjd c2
 replace n1:=hjd n1
 replace n2:=hjd n2
 clear e1 e2 h h2 hr hM hN
 go_enter Tryz.func162,Tryz.ntmps162
 have t:=hjd (Pm.none w)
 go_wp2_with (first
  | ((with_reducible refine a0m (o:=⟨some 2,_,_,_,_,_⟩) (v:=nu d) rfl (.tmp 0) rfl rfl ?_);intro g2 w2 m2;replace t:=hjd ((t.out.kept m2.kept).cons (show Blk w2 g2 27 (iv (fam 16 d)).toArray from m2.blk));clear m2)
  | ((with_reducible refine a0m (o:=⟨some 3,_,_,_,_,_⟩) (v:=nu e) rfl (.tmp 1) rfl rfl ?_);intro g3 w3 m3;replace t:=hjd ((t.out.kept m3.kept).cons (show Blk w3 g3 27 (iv (fam 16 e)).toArray from m3.blk));clear m3))
 refine Txt.a1y [0,2,4] (Pm w [(g3,27,(iv (fam 16 e)).toArray),(g2,27,(iv (fam 16 d)).toArray)]) [[_,_],[_,_],[_,_]] (by kernel_rfl) (by kernel_rfl) rfl t.out.drew (Txt.a0h ?_)
 replace t:=hjd t.out.drew
 go_wp2_with (first
  | (with_reducible refine a0a (o:=⟨some 5,_,_,_,_,_⟩) a1c.row rfl (.tmp 2) rfl rfl (t.out.s (g2,27,(iv (fam 16 d)).toArray) (by simp)) rfl ?_)
  | (go_at_call 107;(with_reducible refine(c1.out _).mono ?_);rintro e v ⟨rfl,kk⟩;replace t:=hjd (t.out.kept kk);clear kk))
 refine⟨rfl,t.out,Txt.a0h ?_⟩
 go_wp2_with (first
  | (with_reducible refine a0a (o:=⟨some 7,_,_,_,_,_⟩) a1c.row rfl (.tmp 3) rfl rfl (t.out.s (g3,27,(iv (fam 16 e)).toArray) (by simp)) rfl ?_)
  | (go_at_call 107;(with_reducible refine(c2.out _).mono ?_);rintro e v ⟨rfl,kk⟩;replace t:=hjd (t.out.kept kk);clear kk))
 refine⟨rfl,t.out,Txt.a0h ?_⟩
 go_wp2_with fail
 refine⟨rfl,t.out,Txt.a1l ⟨⟨by kernel_rfl,?_⟩,?_⟩⟩
 ·intro j hj o ho hw
  have hj2:j=0∨j=2∨j=4:=by simpa using hj
  rcases hj2 with rfl | rfl | rfl <;> cases ho
  ·exact⟨5,rfl,fun u hu=>a0r a1c.row (.tmp 2) rfl rfl (hu.s (g2,27,(iv (fam 16 d)).toArray) (by simp)) rfl⟩
  ·exact⟨7,rfl,fun u hu=>a0r a1c.row (.tmp 3) rfl rfl (hu.s (g3,27,(iv (fam 16 e)).toArray) (by simp)) rfl⟩
  ·exact⟨9,rfl,fun u _=>b7v (.tmp 6) (.tmp 8) rfl rfl rfl Q9.out n1.out n2.out⟩
 go_wp2_with fail
 go_ret
 exact⟨rfl,t.out.k⟩
abbrev GetK(H:List UInt8)(c:Nat):Prop:=∀(u:World) (g:Nat) (bt:TypeId),Blk u g bt (bv H).toArray→u.cell? ⟨g,31,none⟩=some (.int .u8 (c:Int))
abbrev SetK(H M:List UInt8)(d:Int):Prop:=∀(u:World) (g:Nat) (bt:TypeId),Blk u g bt (bv H).toArray→Blk (u.setCell ⟨g,31,none⟩ (.int .u8 d)) g bt (bv M).toArray
theorem getK{X:Nat}:GetK (le X 32) (c31 X):=fun _ _ _ h=>Blk.b7m h
theorem setK{X Y:Nat}(e:X % c3n=Y % c3n):SetK (le X 32) (le Y 32) ((c31 Y:Nat):Int):=fun _ _ _ h=>Blk.b7n h e
theorem a9b{l:List UInt8}(X:Nat)(e:l=le X 32)(W:World):(Instr.index 22 (ab l) (.int .i64 0)).run Tryz.prog W= .ok (.int .u8 ((X % 256:Nat):Int)) W:=by
 subst e
 exact a5g a1u Tryz.underlying5 rfl (by kernel_rfl) .i64 0 (by omega) (byte0 X) W
theorem top_up{y:Nat}(hy:y < PP){l:List UInt8}(e:l=le y 32):∃(c:Nat) (M:List UInt8),GetK l c∧SetK l M ((c:Int) + 128)∧c < 128∧M=le (y + a3r) 32∧M.length=32:=by
 obtain⟨h1,h2,h3⟩:=d2f y hy
 subst e
 have hs:=setK h3
 rw [h1,Int.natCast_add]at hs
 exact⟨_,_,getK,hs,h2,rfl,a0o _ _⟩
abbrev e7r(p:R4)(l:List UInt8):Prop:=∀W,Calls Tryz.prog 40 #[p.v] W fun e w'=>e= .returned (ab l)∧Kept [] W w'
theorem b9a{x z a:Ed.Fq}(h0:z≠0)(h:x * z=a):a * Ed.inv z=x:=by
 have h1:=Ed.a4j z h0
 subst h
 generalize Ed.inv z=i at *
 clear h0
 grind
set_option maxHeartbeats 4000000 in
theorem d5e{p:R4}{P:Ed.Pt}(hp:Rr p P)(ho:P.x.v % 2=1):e7r p (le (enc P) 32):=by
 obtain⟨pX,pY,pZ,px,py,pz,p0,p1,p2⟩:=hp.e
 obtain⟨d1,c1,h1⟩:=b0d pz (by omega)
 obtain⟨d2,c2,h2⟩:=a1s py h1 (by omega) (by omega)
 obtain⟨l3,c3,e3,nl3⟩:=a6d h2 (by omega)
 obtain⟨d4,c4,h4⟩:=a1s px h1 (by omega) (by omega)
 obtain⟨l5,c5,e5,nl5⟩:=a6d h4 (by omega)
 have ex:l5=le P.x.v 32:=by rw [e5,b9a p0 p1]
 have ey:l3=le P.y.v 32:=by rw [e3,b9a p0 p2]
 have hb:=a9b P.x.v ex
 have ho2:((P.x.v % 256:Nat):Int).tmod 2=1:=by rw [Int.tmod_eq_emod_of_nonneg (by omega)];omega
 obtain⟨kc,M,gK,sK,hk1,hM,nM⟩:=top_up (b8k P.y) ey
 have hM2:le (enc P) 32=M:=by rw [hM];unfold enc;rw [if_pos ho]
 have hk4:((kc:Nat):Int) < 128:=by omega
 replace gK:=hjd gK
 replace sK:=hjd sK
 replace nM:=hjd nM
 rw [hM2]
 clear hM hM2
 generalize P.x.v % 256=xb at *
 intro w
 replace c1:=hjd c1
 replace c2:=hjd c2
 replace nl3:=hjd nl3
 replace c3:=hjd c3
 replace c4:=hjd c4
 replace nl5:=hjd nl5
 replace c5:=hjd c5
 clear ex ey ho hp px py pz p0 p1 p2 e5 e3 h1 h2 h4
 go_enter Tryz.func40,Tryz.ntmps40
 have t:=hjd (Pm.none w)
 go_wp2_with (first
  | ((with_reducible refine a0m (o:=⟨some 1,_,_,_,_,_⟩) (v:=p.v) rfl (.tmp 0) rfl rfl ?_);intro g1 w1 m1;have N1:=hjd (fun p hp=>m1.ne (t.out.s p hp).lt);have L1:=hjd (Nat.le_trans t.out.k.size m1.le);replace t:=hjd ((t.out.kept m1.kept).cons (show Blk w1 g1 85 p.c.toArray from m1.blk));clear m1)
  | ((with_reducible refine a0f (o:=⟨some 2,_,_,_,_,_⟩) rfl rfl a3h ?_);intro g2 w2 m2;have N2:=hjd (fun p hp=>m2.ne (t.out.s p hp).lt);have L2:=hjd (Nat.le_trans t.out.k.size m2.le);replace t:=hjd ((t.out.kept m2.kept).cons (show Blk w2 g2 22 (bv (a0p 32)).toArray from m2.blk));clear m2)
  | (with_reducible refine a1h (o:=⟨some 6,_,_,_,_,_⟩) a1c.row rfl (.tmp 5) rfl rfl (R4.pz (t.out.s (g1,85,p.c.toArray) (by simp))) (b1p _) ?_)
  | (go_at_call 87;(with_reducible refine(c1.out _).mono ?_);rintro e v ⟨rfl,kk⟩;replace t:=hjd (t.out.kept kk);clear kk)
  | ((with_reducible refine a0f (o:=⟨some 3,_,_,_,_,_⟩) rfl rfl a2i ?_);intro g3 w3 m3;have N3:=hjd (fun p hp=>m3.ne (t.out.s p hp).lt);have L3:=hjd (Nat.le_trans t.out.k.size m3.le);replace t:=hjd ((t.out.kept m3.kept).cons (show Blk w3 g3 27 (iv (fam 16 zd)).toArray from m3.blk));clear m3)
  | ((refine a0b (o:=⟨none,.store 27 (.tmp 3) (.tmp 7),_,_,_,_⟩) a1c.row rfl (.tmp 3) (.tmp 7) rfl rfl rfl (t.out.s (g3,27,(iv (fam 16 zd)).toArray) (by simp)) rfl rfl (a1j _) ?_);intro v3 b3 k3;replace t:=hjd (t.out.again L3.out N3.out b3 k3);clear b3 k3)
  | (with_reducible refine a1h (o:=⟨some 9,_,_,_,_,_⟩) a1c.row rfl (.tmp 8) rfl rfl (R4.py (t.out.s (g1,85,p.c.toArray) (by simp))) (b1p _) ?_)
  | (with_reducible refine a0a (o:=⟨some 10,_,_,_,_,_⟩) a1c.row rfl (.tmp 3) rfl rfl (t.out.s (g3,27,(iv (fam 16 d1)).toArray) (by simp)) rfl ?_)
  | (go_at_call 84;(with_reducible refine(c2.out _).mono ?_);rintro e v ⟨rfl,kk⟩;replace t:=hjd (t.out.kept kk);clear kk)
  | (go_at_call 107;(with_reducible refine(c3.out _).mono ?_);rintro e v ⟨rfl,kk⟩;replace t:=hjd (t.out.kept kk);clear kk)
  | ((with_reducible refine a0f (o:=⟨some 4,_,_,_,_,_⟩) rfl rfl a3h ?_);intro g4 w4 m4;have N4:=hjd (fun p hp=>m4.ne (t.out.s p hp).lt);have L4:=hjd (Nat.le_trans t.out.k.size m4.le);replace t:=hjd ((t.out.kept m4.kept).cons (show Blk w4 g4 22 (bv (a0p 32)).toArray from m4.blk));clear m4)
  | ((refine a0b (o:=⟨none,.store 22 (.tmp 4) (.tmp 12),_,_,_,_⟩) a1u.row rfl (.tmp 4) (.tmp 12) rfl rfl rfl (t.out.s (g4,22,(bv (a0p 32)).toArray) (by simp)) rfl (bsize nl3.out) (a2a _) ?_);intro v4 b4 k4;replace t:=hjd (t.out.again L4.out N4.out b4 k4);clear b4 k4)
  | (with_reducible refine a1h (o:=⟨some 14,_,_,_,_,_⟩) a1c.row rfl (.tmp 13) rfl rfl (R4.px (t.out.s (g1,85,p.c.toArray) (by simp))) (b1p _) ?_)
  | (with_reducible refine a0a (o:=⟨some 15,_,_,_,_,_⟩) a1c.row rfl (.tmp 3) rfl rfl (t.out.s (g3,27,(iv (fam 16 d1)).toArray) (by simp)) rfl ?_)
  | (go_at_call 84;(with_reducible refine(c4.out _).mono ?_);rintro e v ⟨rfl,kk⟩;replace t:=hjd (t.out.kept kk);clear kk)
  | (go_at_call 107;(with_reducible refine(c5.out _).mono ?_);rintro e v ⟨rfl,kk⟩;replace t:=hjd (t.out.kept kk);clear kk;have b4:=hjd (t.out.s (g4,22,(bv l3).toArray) (by simp));have q1:=gK.out _ _ _ b4.out;have q2:=b4.out.frozen 31;have KC:=hjd ((Kept.refl [g4] v).setCell (p:=⟨g4,31,none⟩) (.inl (by simp)) (.int .u8 ((kc:Int) + 128)));have tn:=hjd (t.out.again L4.out N4.out (sK.out _ _ _ b4.out) KC.out);replace t:=tn;clear b4 tn KC)
  | (with_reducible refine a0a (o:=⟨some 25,_,_,_,_,_⟩) a1u.row rfl (.tmp 4) rfl rfl (t.out.s (g4,22,(bv M).toArray) (by simp)) (bsize nM.out) ?_)
  | ((refine a0b (o:=⟨none,.store 22 (.tmp 2) (.tmp 25),_,_,_,_⟩) a1u.row rfl (.tmp 2) (.tmp 25) rfl rfl rfl (t.out.s (g2,22,(bv (a0p 32)).toArray) (by simp)) rfl (bsize nM.out) (a2a _) ?_);intro v2 b2 k2;have bR:=hjd b2;have kR:=hjd k2;clear b2 k2))
 exact a0y a1u.row rfl rfl bR.out (bsize nM.out) rfl ⟨rfl,t.out.k.a0n kR.out L2.out⟩
set_option maxHeartbeats 4000000 in
theorem d4y{p:R4}{P:Ed.Pt}(hp:Rr p P)(ho:¬P.x.v % 2=1):e7r p (le (enc P) 32):=by
 obtain⟨pX,pY,pZ,px,py,pz,p0,p1,p2⟩:=hp.e
 obtain⟨d1,c1,h1⟩:=b0d pz (by omega)
 obtain⟨d2,c2,h2⟩:=a1s py h1 (by omega) (by omega)
 obtain⟨l3,c3,e3,nl3⟩:=a6d h2 (by omega)
 obtain⟨d4,c4,h4⟩:=a1s px h1 (by omega) (by omega)
 obtain⟨l5,c5,e5,nl5⟩:=a6d h4 (by omega)
 have ex:l5=le P.x.v 32:=by rw [e5,b9a p0 p1]
 have ey:l3=le P.y.v 32:=by rw [e3,b9a p0 p2]
 have hb:=a9b P.x.v ex
 have ho2:((P.x.v % 256:Nat):Int).tmod 2=0:=by rw [Int.tmod_eq_emod_of_nonneg (by omega)];omega
 have hM2:le (enc P) 32=l3:=by rw [ey];unfold enc;rw [if_neg ho,Nat.add_zero]
 rw [hM2]
 clear hM2
 generalize P.x.v % 256=xb at *
 intro w
 replace c1:=hjd c1
 replace c2:=hjd c2
 replace nl3:=hjd nl3
 replace c3:=hjd c3
 replace c4:=hjd c4
 replace nl5:=hjd nl5
 replace c5:=hjd c5
 clear ex ey ho hp px py pz p0 p1 p2 e5 e3 h1 h2 h4
 go_enter Tryz.func40,Tryz.ntmps40
 have t:=hjd (Pm.none w)
 go_wp2_with (first
  | ((with_reducible refine a0m (o:=⟨some 1,_,_,_,_,_⟩) (v:=p.v) rfl (.tmp 0) rfl rfl ?_);intro g1 w1 m1;have N1:=hjd (fun p hp=>m1.ne (t.out.s p hp).lt);have L1:=hjd (Nat.le_trans t.out.k.size m1.le);replace t:=hjd ((t.out.kept m1.kept).cons (show Blk w1 g1 85 p.c.toArray from m1.blk));clear m1)
  | ((with_reducible refine a0f (o:=⟨some 2,_,_,_,_,_⟩) rfl rfl a3h ?_);intro g2 w2 m2;have N2:=hjd (fun p hp=>m2.ne (t.out.s p hp).lt);have L2:=hjd (Nat.le_trans t.out.k.size m2.le);replace t:=hjd ((t.out.kept m2.kept).cons (show Blk w2 g2 22 (bv (a0p 32)).toArray from m2.blk));clear m2)
  | (with_reducible refine a1h (o:=⟨some 6,_,_,_,_,_⟩) a1c.row rfl (.tmp 5) rfl rfl (R4.pz (t.out.s (g1,85,p.c.toArray) (by simp))) (b1p _) ?_)
  | (go_at_call 87;(with_reducible refine(c1.out _).mono ?_);rintro e v ⟨rfl,kk⟩;replace t:=hjd (t.out.kept kk);clear kk)
  | ((with_reducible refine a0f (o:=⟨some 3,_,_,_,_,_⟩) rfl rfl a2i ?_);intro g3 w3 m3;have N3:=hjd (fun p hp=>m3.ne (t.out.s p hp).lt);have L3:=hjd (Nat.le_trans t.out.k.size m3.le);replace t:=hjd ((t.out.kept m3.kept).cons (show Blk w3 g3 27 (iv (fam 16 zd)).toArray from m3.blk));clear m3)
  | ((refine a0b (o:=⟨none,.store 27 (.tmp 3) (.tmp 7),_,_,_,_⟩) a1c.row rfl (.tmp 3) (.tmp 7) rfl rfl rfl (t.out.s (g3,27,(iv (fam 16 zd)).toArray) (by simp)) rfl rfl (a1j _) ?_);intro v3 b3 k3;replace t:=hjd (t.out.again L3.out N3.out b3 k3);clear b3 k3)
  | (with_reducible refine a1h (o:=⟨some 9,_,_,_,_,_⟩) a1c.row rfl (.tmp 8) rfl rfl (R4.py (t.out.s (g1,85,p.c.toArray) (by simp))) (b1p _) ?_)
  | (with_reducible refine a0a (o:=⟨some 10,_,_,_,_,_⟩) a1c.row rfl (.tmp 3) rfl rfl (t.out.s (g3,27,(iv (fam 16 d1)).toArray) (by simp)) rfl ?_)
  | (go_at_call 84;(with_reducible refine(c2.out _).mono ?_);rintro e v ⟨rfl,kk⟩;replace t:=hjd (t.out.kept kk);clear kk)
  | (go_at_call 107;(with_reducible refine(c3.out _).mono ?_);rintro e v ⟨rfl,kk⟩;replace t:=hjd (t.out.kept kk);clear kk)
  | ((with_reducible refine a0f (o:=⟨some 4,_,_,_,_,_⟩) rfl rfl a3h ?_);intro g4 w4 m4;have N4:=hjd (fun p hp=>m4.ne (t.out.s p hp).lt);have L4:=hjd (Nat.le_trans t.out.k.size m4.le);replace t:=hjd ((t.out.kept m4.kept).cons (show Blk w4 g4 22 (bv (a0p 32)).toArray from m4.blk));clear m4)
  | ((refine a0b (o:=⟨none,.store 22 (.tmp 4) (.tmp 12),_,_,_,_⟩) a1u.row rfl (.tmp 4) (.tmp 12) rfl rfl rfl (t.out.s (g4,22,(bv (a0p 32)).toArray) (by simp)) rfl (bsize nl3.out) (a2a _) ?_);intro v4 b4 k4;replace t:=hjd (t.out.again L4.out N4.out b4 k4);clear b4 k4)
  | (with_reducible refine a1h (o:=⟨some 14,_,_,_,_,_⟩) a1c.row rfl (.tmp 13) rfl rfl (R4.px (t.out.s (g1,85,p.c.toArray) (by simp))) (b1p _) ?_)
  | (with_reducible refine a0a (o:=⟨some 15,_,_,_,_,_⟩) a1c.row rfl (.tmp 3) rfl rfl (t.out.s (g3,27,(iv (fam 16 d1)).toArray) (by simp)) rfl ?_)
  | (go_at_call 84;(with_reducible refine(c4.out _).mono ?_);rintro e v ⟨rfl,kk⟩;replace t:=hjd (t.out.kept kk);clear kk)
  | (go_at_call 107;(with_reducible refine(c5.out _).mono ?_);rintro e v ⟨rfl,kk⟩;replace t:=hjd (t.out.kept kk);clear kk)
  | (with_reducible refine a0a (o:=⟨some 25,_,_,_,_,_⟩) a1u.row rfl (.tmp 4) rfl rfl (t.out.s (g4,22,(bv l3).toArray) (by simp)) (bsize nl3.out) ?_)
  | ((refine a0b (o:=⟨none,.store 22 (.tmp 2) (.tmp 25),_,_,_,_⟩) a1u.row rfl (.tmp 2) (.tmp 25) rfl rfl rfl (t.out.s (g2,22,(bv (a0p 32)).toArray) (by simp)) rfl (bsize nl3.out) (a2a _) ?_);intro v2 b2 k2;have bR:=hjd b2;have kR:=hjd k2;clear b2 k2))
 exact a0y a1u.row rfl rfl bR.out (bsize nl3.out) rfl ⟨rfl,t.out.k.a0n kR.out L2.out⟩
theorem rbytes{p:R4}{P:Ed.Pt}(hp:Rr p P):e7r p (le (enc P) 32):=by
 by_cases ho:P.x.v % 2=1
 ·exact d5e hp ho
 ·exact d4y hp ho
end Go.Proofs.YtdbngnlpafcogaaGreat
namespace Go.Proofs.YtdbngnlpafcogaaGreat
open Go.RowKit Go.Mem Go.Txt
def upR(f:Nat→R4)(n:Nat)(r:R4)(k:Nat):R4:=if k≤n then f k else r
theorem d3h{f:Nat→R4}{n:Nat}{r:R4}{k:Nat}(h:k≤n):upR f n r k=f k:=if_pos h
theorem d9w{f:Nat→R4}{n:Nat}{r:R4}{k:Nat}(h:¬k≤n):upR f n r k=r:=if_neg h
def upL(f:Nat→R4)(n:Nat)(r:R4)(k:Nat):R4:=if k < n then f k else r
theorem upL_lt{f:Nat→R4}{n:Nat}{r:R4}{k:Nat}(h:k < n):upL f n r k=f k:=if_pos h
theorem upL_ge{f:Nat→R4}{n:Nat}{r:R4}{k:Nat}(h:¬k < n):upL f n r k=r:=if_neg h
theorem c8i{dc:Nat→Int}{p z:R4}{P:Ed.Pt}(hD:Dq 70000 dc Ed.D)(hp:Rr p P)(hz:Rr z Ed.Pt.zero){X:Nat}(hX:X < b2r):∀n,n≤256→∃f g:Nat→R4,f 0=z∧(∀k,k < n→e5l dc (f k) (f k) (g k)∧(tb X (255 - k)=true→e5l dc (g k) p (f (k + 1)))∧(tb X (255 - k)=false→f (k + 1)=g k))∧Rr (f n) (Ed.Pt.mul (X / 2 ^ (256 - n)) P)
 | 0,_=>⟨fun _=>z,fun _=>z,rfl,fun k h=>absurd h (by omega),by rw [Nat.sub_zero,Nat.div_eq_of_lt (by rw [a8s]at hX;exact hX),Ed.Pt.b1t];exact hz⟩
 | n + 1,hn=>by
   obtain⟨f,g,h0,h1,h2⟩:=c8i hD hp hz hX n (by omega)
   obtain⟨r,c,hr⟩:=e1j hD h2 h2
   obtain⟨r2,c2,hr2⟩:=e1j hD hr hp
   rw [←Ed.Pt.mul_add,←Nat.two_mul]at hr
   rw [←Ed.Pt.mul_add,←Nat.two_mul,←Ed.Pt.mul_succ]at hr2
   have e:X / 2 ^ (256 - (n + 1))=2 * (X / 2 ^ (256 - n)) + (if tb X (255 - n)=true then 1 else 0):=by
    rw [show 256 - n=(255 - n) + 1 from by omega,show 256 - (n + 1)=255 - n from by omega,Nat.pow_succ,←Nat.div_div_eq_div_mul]
    unfold tb
    generalize X / 2 ^ (255 - n)=y
    by_cases hy:y % 2=1
    ·rw [if_pos (by simpa using hy)];omega
    ·rw [if_neg (by simpa using hy)];omega
   refine⟨upR f n (if tb X (255 - n)=true then r2 else r),upL g n r,by rw [d3h (Nat.zero_le _)];exact h0,fun k hk=>?_,?_⟩
   ·rw [d3h (show k≤n by omega)]
    by_cases hkn:k=n
    ·subst hkn
     rw [upL_ge (show ¬k < k by omega),d9w (show ¬k + 1≤k by omega)]
     exact⟨c,fun h=>by rw [if_pos h];exact c2,fun h=>by rw [if_neg (by rw [h];decide)]⟩
    ·rw [upL_lt (show k < n by omega),d3h (show k + 1≤n by omega)]
     exact h1 k (by omega)
   ·rw [d9w (by omega),e]
    by_cases h:tb X (255 - n)=true
    ·rw [if_pos h,if_pos h];exact hr2
    ·rw [if_neg h,if_neg h,Nat.add_zero];exact hr
abbrev RmuC(d:Nat→Int)(p:R4)(l:List UInt8)(r:R4):Prop:=∀W,Calls Tryz.prog 41 #[nu d,p.v,ab l] W fun e w'=>e= .returned r.v∧Kept [] W w'
theorem tbk{X k:Nat}(_:k < 256):(((byt X (k / 8):Nat):Int) / 2 ^ (k % 8)).tmod 2=if tb X k=true then 1 else 0:=by
 have h:=d0j X (k / 8) (k % 8) (Nat.mod_lt _ (by decide))
 rw [Nat.div_add_mod]at h
 have hc:(((byt X (k / 8):Nat):Int) / 2 ^ (k % 8))=((byt X (k / 8) / 2 ^ (k % 8):Nat):Int):=by push_cast;rfl
 rw [hc]
 generalize byt X (k / 8) / 2 ^ (k % 8)=y at *
 rw [Int.tmod_eq_emod_of_nonneg (by omega)]
 unfold tb
 rw [←h]
 by_cases hy:y % 2=1
 ·rw [if_pos (by simpa using hy)];omega
 ·rw [if_neg (by simpa using hy)];omega
set_option maxHeartbeats 3200000 in
theorem e6v{dc:Nat→Int}{p:R4}{P:Ed.Pt}(hD:Dq 70000 dc Ed.D)(hp:Rr p P){l:List UInt8}(hl:l.length=32):∃r,RmuC dc p l r∧Rr r (Ed.Pt.mul (leV l) P):=by
 obtain⟨z,cz,hz⟩:=zero_r
 obtain⟨f,g,f0,cf,hf⟩:=c8i hD hp hz (d1n hl) 256 (by omega)
 rw [show 256 - 256=0 from rfl,Nat.pow_zero,Nat.div_one]at hf
 refine⟨f 256,?_,hf⟩
 intro w
 have hle:=c3f hl
 obtain⟨X,hX⟩:∃X,X=leV l:=⟨_,rfl⟩
 rw [←hX]at cf hle
 subst hle
 subst f0
 replace cz:=hjd cz
 replace cf:=hjd cf
 clear hf hX hz hD hp hl
 have tk:=fun k h=>tbk (X:=X) (k:=k) h
 replace tk:=hjd tk
 go_enter Tryz.func41,Tryz.ntmps41
 have t:=hjd (Pm.none w)
 go_wp2_with (first
  | ((with_reducible refine a0m (o:=⟨some 3,_,_,_,_,_⟩) (v:=nu dc) rfl (.tmp 0) rfl rfl ?_);intro g3 w3 m3;replace t:=hjd ((t.out.kept m3.kept).cons (show Blk w3 g3 29 (iv (fam 16 dc)).toArray from m3.blk));clear m3)
  | ((with_reducible refine a0m (o:=⟨some 4,_,_,_,_,_⟩) (v:=p.v) rfl (.tmp 1) rfl rfl ?_);intro g4 w4 m4;replace t:=hjd ((t.out.kept m4.kept).cons (show Blk w4 g4 85 p.c.toArray from m4.blk));clear m4)
  | ((with_reducible refine a0m (o:=⟨some 5,_,_,_,_,_⟩) (v:=ab (le X 32)) rfl (.tmp 2) rfl rfl ?_);intro g5 w5 m5;replace t:=hjd ((t.out.kept m5.kept).cons (show Blk w5 g5 22 (bv (le X 32)).toArray from m5.blk));clear m5)
  | ((with_reducible refine a0f (o:=⟨some 6,_,_,_,_,_⟩) rfl rfl b5x ?_);intro g6 w6 m6;have L6:=hjd (Nat.le_trans t.out.k.size m6.le);replace t:=hjd ((t.out.kept m6.kept).cons (show Blk w6 g6 85 rz.c.toArray from m6.blk));clear m6)
  | (go_at_call 108;(with_reducible refine(cz.out _).mono ?_);rintro e v ⟨rfl,kk⟩;replace t:=hjd (t.out.kept kk);clear kk)
  | ((with_reducible refine a0f (o:=⟨some 7,_,_,_,_,_⟩) rfl rfl b5x ?_);intro g7 w7 m7;have N7:=hjd (fun p hp=>m7.ne (t.out.s p hp).lt);have L7:=hjd (Nat.le_trans t.out.k.size m7.le);replace t:=hjd ((t.out.kept m7.kept).cons (show Blk w7 g7 85 rz.c.toArray from m7.blk));clear m7)
  | ((refine a0b (o:=⟨none,.store 85 (.tmp 7) (.tmp 9),_,_,_,_⟩) a2k rfl (.tmp 7) (.tmp 9) rfl rfl rfl (t.out.s (g7,85,rz.c.toArray) (by simp)) (R4.size rz) (R4.size (f 0)) (R4.one (f 0)) ?_);intro v7 b7 k7;replace t:=hjd (t.out.again L7.out N7.out b7 k7);clear b7 k7))
 go_loopg [8] 256 (fun fu i wk=>∃m:Nat,fu=m∧m≤256∧(∃z:Int,i= .int .i64 z∧z=(m:Int) - 1)∧Pm w [(g7,85,(f (256 - m)).c.toArray),(g6,85,rz.c.toArray),(g5,22,(bv (le X 32)).toArray),(g4,85,p.c.toArray),(g3,29,(iv (fam 16 dc)).toArray)] wk)
 case atStart=>exact⟨256,rfl,Nat.le_refl _,⟨_,rfl,rfl⟩,t.out⟩
 case round=>
  obtain⟨m,hfu,hm,⟨z,rfl,hz⟩,hp⟩:=hrel
  have t:=hjd hp
  clear hp
  by_cases hm0:0 < m
  ·obtain⟨k,rfl⟩:∃k,m=k + 1:=⟨m - 1,by omega⟩
   obtain rfl:z=(k:Int):=by omega
   clear hz hm0
   have hk:k < 256:=by omega
   have hk8:k / 8 < 32:=by omega
   obtain⟨ca,cb,ce⟩:=cf.out (256 - (k + 1)) (by omega)
   rw [show 255 - (256 - (k + 1))=k from by omega,show 256 - (k + 1) + 1=256 - k from by omega]at cb ce
   replace ca:=hjd ca
   have tk:=tk.out k hk
   have s0:=hjd (R4.size (f (256 - (k + 1))))
   have s1:=hjd (R4.size (g (256 - (k + 1))))
   have s2:=hjd (R4.one (g (256 - (k + 1))))
   have s3:=hjd (R4.size (f (256 - k)))
   have s4:=hjd (R4.one (f (256 - k)))
   generalize hf1:f (256 - k)=f1 at *
   generalize hf0:f (256 - (k + 1))=f0 at *
   generalize g (256 - (k + 1))=g1 at *
   replace hf1:=hjd hf1
   clear hf0
   by_cases htb:tb X k=true
   ·rw [if_pos htb]at tk
    have cb:=hjd (cb htb)
    clear ce htb
    have hbl:(0:Int)≤(byt X (k / 8):Nat):=by omega
    go_wp2_with (first
     | (with_reducible refine a0a (o:=⟨some 14,_,_,_,_,_⟩) a3c rfl (.tmp 3) rfl rfl (t.out.s (g3,29,(iv (fam 16 dc)).toArray) (by simp)) rfl ?_)
     | (with_reducible refine a0a (o:=⟨some 15,_,_,_,_,_⟩) a2k rfl (.tmp 7) rfl rfl (t.out.s (g7,85,f0.c.toArray) (by simp)) s0.out ?_)
     | (with_reducible refine a0a (o:=⟨some 16,_,_,_,_,_⟩) a2k rfl (.tmp 7) rfl rfl (t.out.s (g7,85,f0.c.toArray) (by simp)) s0.out ?_)
     | (go_at_call 57;(with_reducible refine(ca.out _).mono ?_);rintro e v ⟨rfl,kk⟩;replace t:=hjd (t.out.kept kk);clear kk)
     | ((refine a0b (o:=⟨none,.store 85 (.tmp 7) (.tmp 17),_,_,_,_⟩) a2k rfl (.tmp 7) (.tmp 17) rfl rfl rfl (t.out.s (g7,85,f0.c.toArray) (by simp)) s0.out s1.out s2.out ?_);intro v7 b7 k7;replace t:=hjd (t.out.again L7.out N7.out b7 k7);clear b7 k7;have q1:=Blk.getb (t.out.s (g5,22,(bv (le X 32)).toArray) (by simp)) hk8)
     | (with_reducible refine a0a (o:=⟨some 28,_,_,_,_,_⟩) a3c rfl (.tmp 3) rfl rfl (t.out.s (g3,29,(iv (fam 16 dc)).toArray) (by simp)) rfl ?_)
     | (with_reducible refine a0a (o:=⟨some 29,_,_,_,_,_⟩) a2k rfl (.tmp 7) rfl rfl (t.out.s (g7,85,g1.c.toArray) (by simp)) s1.out ?_)
     | (with_reducible refine a0a (o:=⟨some 30,_,_,_,_,_⟩) a2k rfl (.tmp 4) rfl rfl (t.out.s (g4,85,p.c.toArray) (by simp)) (R4.size p) ?_)
     | (go_at_call 57;(with_reducible refine(cb.out _).mono ?_);rintro e v ⟨rfl,kk⟩;replace t:=hjd (t.out.kept kk);clear kk)
     | ((refine a0b (o:=⟨none,.store 85 (.tmp 7) (.tmp 31),_,_,_,_⟩) a2k rfl (.tmp 7) (.tmp 31) rfl rfl rfl (t.out.s (g7,85,g1.c.toArray) (by simp)) s1.out s3.out s4.out ?_);intro v8 b8 k8;replace t:=hjd (t.out.again L7.out N7.out b8 k8);clear b8 k8))
    clear q1
    go_roundg k
    case measure=>omega
    case rel=>exact⟨k,rfl,by omega,⟨_,by go_num,rfl⟩,by rw [hf1.out];exact t.out⟩
   ·rw [if_neg htb]at tk
    have ce:=hjd (ce (by simpa using htb))
    clear cb htb
    go_wp2_with (first
     | (with_reducible refine a0a (o:=⟨some 14,_,_,_,_,_⟩) a3c rfl (.tmp 3) rfl rfl (t.out.s (g3,29,(iv (fam 16 dc)).toArray) (by simp)) rfl ?_)
     | (with_reducible refine a0a (o:=⟨some 15,_,_,_,_,_⟩) a2k rfl (.tmp 7) rfl rfl (t.out.s (g7,85,f0.c.toArray) (by simp)) s0.out ?_)
     | (with_reducible refine a0a (o:=⟨some 16,_,_,_,_,_⟩) a2k rfl (.tmp 7) rfl rfl (t.out.s (g7,85,f0.c.toArray) (by simp)) s0.out ?_)
     | (go_at_call 57;(with_reducible refine(ca.out _).mono ?_);rintro e v ⟨rfl,kk⟩;replace t:=hjd (t.out.kept kk);clear kk)
     | ((refine a0b (o:=⟨none,.store 85 (.tmp 7) (.tmp 17),_,_,_,_⟩) a2k rfl (.tmp 7) (.tmp 17) rfl rfl rfl (t.out.s (g7,85,f0.c.toArray) (by simp)) s0.out s1.out s2.out ?_);intro v7 b7 k7;replace t:=hjd (t.out.again L7.out N7.out b7 k7);clear b7 k7;have q1:=Blk.getb (t.out.s (g5,22,(bv (le X 32)).toArray) (by simp)) hk8))
    clear q1
    go_roundg k
    case measure=>omega
    case rel=>exact⟨k,rfl,by omega,⟨_,by go_num,rfl⟩,by rw [hf1.out,ce.out];exact t.out⟩
  ·obtain rfl:m=0:=by omega
   obtain rfl:z= -1:=by omega
   clear hz cf tk
   rw [show 256 - 0=256 from rfl]at t
   have s0:=hjd (R4.size (f 256))
   have s1:=hjd (R4.one (f 256))
   generalize hf2:f 256=f0 at *
   replace hf2:=hjd hf2
   go_wp2_with (first
    | (with_reducible refine a0a (o:=⟨some 32,_,_,_,_,_⟩) a2k rfl (.tmp 7) rfl rfl (t.out.s (g7,85,f0.c.toArray) (by simp)) s0.out ?_)
    | ((refine a0b (o:=⟨none,.store 85 (.tmp 6) (.tmp 32),_,_,_,_⟩) a2k rfl (.tmp 6) (.tmp 32) rfl rfl rfl (t.out.s (g6,85,rz.c.toArray) (by simp)) (R4.size rz) s0.out s1.out ?_);intro v7 b7 k7))
   exact a0y a2k rfl rfl b7 s0.out rfl ⟨by rw [hf2.out],t.out.k.a0n k7 L6.out⟩
end Go.Proofs.YtdbngnlpafcogaaGreat
