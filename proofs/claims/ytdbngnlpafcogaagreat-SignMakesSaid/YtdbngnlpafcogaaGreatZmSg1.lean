/-
  The sign: parts put behind others, the number of a digest.
-/
import Derived.Test.YtdbngnlpafcogaaGreatZmSzr
import Derived.Test.YtdbngnlpafcogaaGreatZmSq6
set_option maxRecDepth 100000
namespace Go.Proofs.YtdbngnlpafcogaaGreat
open Go.RowKit Go.Mem Go.Txt
theorem a3n:SliceT Tryz.prog 45 23 1 24 (.slice none 0 0):=⟨Tryz.underlying45,by kernel_rfl,rfl,by omega⟩
theorem one_sl(l:List (Value × List UInt8))(w:World)(h:∀x∈l,Rd w 1 x.1 x.2.length (bv x.2)):∀u∈l.map (·.1),u.oneCell'=true:=by
 intro u hu
 obtain⟨x,hx,rfl⟩:=List.mem_map.1 hu
 obtain⟨A,c,e,_⟩:=h x hx
 rw [e]
 rfl
def b5e(m:List UInt8):Nat:=Z.leV (Q.sha m) % Z.LL
theorem c7r(pv:Value)(ps:List (Value × List UInt8))(w:World)(hp:Parts w pv ps)(hn:ps.length≤9223372036854775807)(hl:(a1k ps).length≤1000000000000) :
 Calls Tryz.prog 34 #[pv] w fun e w'=>e= .returned (Z.w4 (b5e (a1k ps)))∧Kept [] w w':=by
 have cs:=hjd (fun u (h:Parts u pv ps)=>Q.d3w pv ps u h hn hl)
 have cw:=hjd (Z.c3p (Q.sha (a1k ps)) (Q.a6g _))
 have P:=hjd hp
 have hq:=hjd (show Z.leV (Q.sha (a1k ps)) % Z.LL=b5e (a1k ps)from rfl)
 generalize Q.sha (a1k ps)=s at *
 clear hp
 go_enter Tryz.func34,Tryz.ntmps34
 go_wp2_with (first
  | ((with_reducible refine a0q 2 ?_);(refine a0f (o:=⟨some 2,_,_,_,_,_⟩) rfl rfl Z.a7o ?_);intro g2 w2 m2;have M2:=hjd m2;clear m2)
  | (go_at_call 88;(with_reducible refine(cs.out _ (P.out.a1o M2.out.kept)).mono ?_);rintro e w3 ⟨rfl,k3⟩;have K3:=hjd k3;clear k3)
  | (go_at_call 102;(with_reducible refine(cw.out _).mono ?_);rintro e w4 ⟨rfl,k4⟩;rw [hq.out];have K4:=hjd k4;clear k4)
  | ((with_reducible refine b3t (.tmp 2) (.tmp 5) ?_);refine a0b (o:=⟨none,Op.store 78 (.tmp 2) (.tmp 5),_,_,_,_⟩) Z.a1x rfl (.tmp 2) (.tmp 5) rfl rfl rfl ((M2.out.blk.kept K3.out (by simp)).kept K4.out (by simp)) rfl rfl (a2d _) ?_;intro w5 b5 k5;have B5:=hjd b5;have K5:=hjd k5;clear b5 k5))
 refine a0y Z.a1x rfl rfl B5.out rfl rfl ⟨rfl,?_⟩
 exact((M2.out.kept.a0i K3.out).a0i K4.out).a0n K5.out M2.out.le
end Go.Proofs.YtdbngnlpafcogaaGreat
