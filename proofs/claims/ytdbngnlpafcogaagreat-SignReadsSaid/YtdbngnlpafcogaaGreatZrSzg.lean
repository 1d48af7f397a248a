/-
  Scalars: which bytes the document says are numbers.
-/
import Derived.Test.YtdbngnlpafcogaaGreatZrSzr2
set_option maxRecDepth 100000
namespace Go.Proofs.YtdbngnlpafcogaaGreat.Z
open Go.RowKit Go.Mem
theorem d2g(bs:List UInt8)(hl:bs.length=32):(le (leV bs % LL) 32 == bs)=okB (leV bs):=by
 have h1:le (leV bs) 32=bs:=by have:=a8z bs;rwa [hl]at this
 have h2:leV bs < 2 ^ (8 * 32):=by have:=a9j bs;rwa [hl]at this
 have h3:leV bs % LL < 2 ^ (8 * 32):=Nat.lt_of_le_of_lt (Nat.mod_le _ _) h2
 have h4:=c8s h3 h2
 rw [h1]at h4
 rw [h4]
 unfold okB
 rw [decide_eq_decide]
 constructor
 ·intro h;rw [←h];exact Nat.mod_lt _ b5y
 ·intro h;exact Nat.mod_eq_of_lt h
theorem b5b(bs:List UInt8)(w:World)(hl:bs.length=32):Calls Tryz.prog 56 #[ab bs] w fun e w'=>e= .returned (.bool (okB (leV bs)))∧Kept [] w w':=by
 have hlen:=hjd (show(bv bs).length=32 by simp [hl])
 have hq:=hjd (d2g bs hl)
 have hl2:=hjd hl
 clear hl
 go_enter Tryz.func56,Tryz.ntmps56
 go_wp2_with ((with_reducible refine a0j (o:=⟨some 1,_,_,_,_,_⟩) (v:=ab bs) rfl (.tmp 0) rfl rfl ?_);intro g1 w1 m1)
 have M:=hjd m1
 have hS:=m1.blk.drew
 clear m1
 refine Txt.b0b [2,3] (fun u=>Blk u g1 22 (bv bs).toArray) [[_,_],[_,_,_]] (by kernel_rfl) (by kernel_rfl) rfl hS (Txt.a0h ?_)
 have B:=hjd hS
 clear hS
 go_wp2_with fail
 have hrd:Rd w1.drew 1 (.slice (some ⟨g1,0,none⟩) 32 32) bs.length (bv bs):=by rw [hl2.out];exact Blk.rd B.out hlen.out (Nat.le_refl _)
 refine(c3y _ bs _ hrd (by have:=hl2.out;omega)).mono ?_
 rintro e w2 ⟨rfl,k2⟩
 have B2:=hjd (show Blk w2 g1 22 (bv bs).toArray from B.out.kept k2 (by simp))
 have K2:=hjd (M.out.kept.a0i k2.a1r)
 clear hrd k2
 have he:=a3a a1x Tryz.underlying5 (by kernel_rfl) (le (leV bs % LL) 32) bs (a0o _ _) hl2.out w2
 rw [hq.out]at he
 go_wp2_with fail
 refine⟨rfl,B2.out,Txt.a0h ?_⟩
 go_wp2_with (refine a0q a1x rfl (.tmp 1) rfl rfl B2.out hlen.out ?_)
 refine⟨rfl,B2.out,Txt.a1m ⟨⟨by kernel_rfl,?_⟩,?_⟩⟩
 ·intro j hj o ho _
  have hj2:j=2∨j=3:=by simpa using hj
  rcases hj2 with rfl | rfl <;> cases ho
  ·exact⟨5,rfl,fun u hu=>a0x a1x.row (.tmp 1) rfl rfl hu hlen.out⟩
  ·exact⟨6,rfl,fun u _=>(b4q a1x Tryz.underlying5 (by kernel_rfl) (by kernel_rfl) (.tmp 4) (.tmp 5) rfl (xs:=le (leV bs % LL) 32) (ys:=bs) rfl rfl (a0o _ _) hl2.out).trans (by rw [hq.out];rfl)⟩
 go_wp2_with fail
 go_ret
 exact⟨rfl,K2.out⟩
end Go.Proofs.YtdbngnlpafcogaaGreat.Z
