/-
  The document's sign: Right says what Verify says.
-/
import Derived.Test.YtdbngnlpafcogaaGreatZrRs5
set_option maxRecDepth 100000
namespace Go.Proofs.YtdbngnlpafcogaaGreat
open Go.RowKit Go.Mem Go.Txt
theorem d3l{dc:Nat→Int}(hD:Dq 70000 dc Ed.D)(key SG:List UInt8)(hk:key.length=32)(hg:SG.length=64)(mv:Value)(m:List UInt8)(w:World)(hm:c1f m mv w)(hml:m.length≤10000000000) :
 Calls Tryz.prog 14 #[nu dc,ab key,ab SG,mv] w fun e w'=>e= .returned (.bool (okV key SG m))∧Kept [] w w':=by
 have hR:(SG.take 32).length=32:=by simp [hg]
 have hT:(SG.drop 32).length=32:=by simp [hg]
 have hTT:(SG.drop 32).take 32=SG.drop 32:=List.take_of_length_le (by omega)
 rcases rdec_r hD (c7d hk)with⟨P,p,hP,cd,hp2⟩ | ⟨cd,hno⟩
 ·rw [b5j hk]at cd
  have hPk:le (enc P) 32=key:=by rw [hP,b5j hk]
  have cs:=d5v hD hp2
  by_cases h8:Ed.Pt.mul 8 P=Ed.Pt.zero
  ·rw [decide_eq_true (b8h.2 h8)]at cs
   have e:okV key SG m=false:=a6c fun Q h=>h.big (by rw [a6k (h.kb.trans hPk.symm)];exact h8)
   rw [e]
   exact c3d hk mv w cd cs
  ·rw [decide_eq_false (fun e=>h8 (b8h.1 e))]at cs
   have cg:=fun u=>Z.b5b (SG.drop 32) u hT
   have hz:Z.okB (Z.leV (SG.drop 32))=decide (leV (SG.drop 32) < LL):=by rw [d9w];rfl
   by_cases hs:leV (SG.drop 32) < LL
   ·rw [hz,decide_eq_true hs]at cg
    obtain⟨b,cb,hb0⟩:=e6k hD
    obtain⟨q,cq,hq⟩:=c9z hD hb0 hT
    obtain⟨pk,cp,hpk⟩:=c9z hD hp2 (a0o (b3z (SG.take 32 ++ (key ++ m))) 32)
    rw [d2u]at hpk
    obtain⟨ng,cn,hn⟩:=rneg_r hpk
    obtain⟨r,cr,hr⟩:=c4t hD hq hn
    have hb:(le (enc (Ed.Pt.mul (leV (SG.drop 32)) BB + (Ed.Pt.mul (b3z (SG.take 32 ++ (key ++ m))) P).neg)) 32 == SG.take 32)=okV key SG m:=by
     rw [Bool.eq_iff_iff,b8q hPk,beq_iff_eq,←Ed.Pt.mul_neg]
     exact⟨fun h=>⟨hPk,h8,hs,h⟩,fun h=>h.eq⟩
    refine c6v hk hg rfl hTT hR hT (a0o _ _) (a0o _ _) mv w hm cd cs cg (t3:=Q.sha (SG.take 32 ++ (key ++ m))) ?_ ?_ cb cq cp cn cr (c9g hr) hb
    ·intro u pv v v2 v3 h
     exact long_c pv _ _ u h (by simp [a1o,bytesOf]) (by simp) (by simp [hk,hg];omega)
    ·intro u v h
     have:=mod_c v _ u h (by rw [Q.b1v];decide)
     have e:leV (Q.sha (SG.take 32 ++ (key ++ m))) % LL=b3z (SG.take 32 ++ (key ++ m)):=by unfold b3z;rw [d9w,zLL]
     rwa [e]at this
   ·rw [hz,decide_eq_false hs]at cg
    have e:okV key SG m=false:=a6c fun Q h=>hs h.lt
    rw [e]
    exact c8i hk hg hTT hT mv w cd cs cg
 ·rw [b5j hk]at cd
  have e:okV key SG m=false:=a6c fun Q h=>hno Q (by rw [←h.kb,a5d,Nat.mod_eq_of_lt (b3u (b4b _))])
  rw [e]
  exact d7x hk mv w cd
end Go.Proofs.YtdbngnlpafcogaaGreat
