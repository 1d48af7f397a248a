/-
  The document's sign: what Sign says; Right.
-/
import Derived.Test.YtdbngnlpafcogaaGreatZmRs4
set_option maxRecDepth 100000
namespace Go.Proofs.YtdbngnlpafcogaaGreat
open Go.RowKit Go.Mem Go.Txt
theorem d0s{dc:Nat→Int}(hD:Dq 70000 dc Ed.D)(bs:List UInt8)(hl:bs.length=32)(mv:Value)(m:List UInt8)(w:World)(hm:a8e m mv w)(hml:m.length≤10000000000) :
 Calls Tryz.prog 12 #[nu dc,ab bs,mv] w fun e w'=>e= .returned (ab (a9r bs m))∧Kept [] w w':=by
 obtain⟨b,p,cb,cr,cy⟩:=e1h hD (a0o (rS bs m) 32)
 have hd:((Q.sha bs).drop 32).length=32:=by simp [Q.a6g]
 have hAl:=a5i (a7q bs)
 have hRl:(RS bs m).length=32:=a5i _
 have hr:leV (Q.sha ((Q.sha bs).drop 32 ++ m)) % LL=rS bs m:=by unfold rS b5e;rw [c7w,zLL]
 have hh:leV (Q.sha (RS bs m ++ (b3b (a7q bs) ++ m))) % LL=hS bs m:=by unfold hS b5e;rw [c7w,zLL]
 refine c6v (n:=a7q bs) (A:=b3b (a7q bs)) (s:=Q.sha bs) (d:=(Q.sha bs).drop 32) (r:=le (rS bs m) 32) (RB:=RS bs m) (h:=le (hS bs m) 32) (x:=le (b3d bs % LL) 32) (y:=le (hS bs m * (b3d bs % LL) % LL) 32) (SB:=le (sS bs m) 32) (t2:=Q.sha ((Q.sha bs).drop 32 ++ m)) (t3:=Q.sha (RS bs m ++ (b3b (a7q bs) ++ m))) hl (a5w bs) hAl (Q.a6g _) rfl (a0o _ _) hRl (a0o _ _) (a0o _ _) (a0o _ _) (a0o _ _) mv w hm (fun u=>c3w bs hl u) (fun u=>c4b hD bs hl u) ?_ ?_ ?_ cb cr cy ?_ ?_ ?_ ?_ ?_
 ·intro u pv v h
  exact d0n pv _ bs u h (a4r _ _) (by simp) (by omega)
 ·intro u pv v v2 h
  exact d0n pv _ _ u h (by simp [a1k,bytesOf]) (by simp) (by simp [hd];omega)
 ·intro u v h
  rw [←hr]
  exact e4q v _ u h (by rw [Q.a6g];decide)
 ·intro u pv v v2 v3 h
  exact d0n pv _ _ u h (by simp [a1k,bytesOf]) (by simp) (by simp [hAl,hRl];omega)
 ·intro u v h
  rw [←hh]
  exact e4q v _ u h (by rw [Q.a6g];decide)
 ·intro u v h
  exact e4q v _ u h (by rw [a5w];decide)
 ·intro u
  have:=Z.b6z (le (hS bs m) 32) (le (b3d bs % LL) 32) u (a0o _ _) (a0o _ _)
  have e1:leV (le (hS bs m) 32)=hS bs m:=c3k _
  have e2:leV (le (b3d bs % LL) 32)=b3d bs % LL:=by
   rw [a5f,Nat.mod_eq_of_lt (Nat.lt_trans (Nat.mod_lt _ (show 0 < LL by decide +kernel)) (show LL < 2 ^ (8 * 32) by decide +kernel))]
  rw [c7w,c7w,e1,e2]at this
  exact this
 ·intro u
  have:=Z.c5f (le (rS bs m) 32) (le (hS bs m * (b3d bs % LL) % LL) 32) u (a0o _ _) (a0o _ _)
  have e1:leV (le (rS bs m) 32)=rS bs m:=c3k _
  have e2:leV (le (hS bs m * (b3d bs % LL) % LL) 32)=hS bs m * (b3d bs % LL) % LL:=by
   rw [a5f,Nat.mod_eq_of_lt (Nat.lt_trans (Nat.mod_lt _ (show 0 < LL by decide +kernel)) (show LL < 2 ^ (8 * 32) by decide +kernel))]
  have e3:(rS bs m + hS bs m * (b3d bs % LL) % LL) % Z.LL=sS bs m:=by unfold sS b3d;rw [c7w,zLL]
  rw [c7w,c7w,e1,e2,e3]at this
  exact this
end Go.Proofs.YtdbngnlpafcogaaGreat
