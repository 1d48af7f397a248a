/-
  The keys' laws: which update is a history's next one, and what the history and its value are then (HistNext): the law.
-/
import Derived.Test.YtdbngnlpafcogaaZhHn2
set_option maxRecDepth 100000
namespace Go.Proofs.Ytdbngnlpafcogaa
open Go.RowKit Go.Mem Go.Txt
theorem d0n{lk:List (List UInt8)}{k:List UInt8}(h:∀x∈lk,x.length=32)(hk:k.length=32):∀x∈lk ++ [k],x.length=32:=by
 intro x hx
 rcases List.mem_append.1 hx with h1 | h1
 ·exact h x h1
 ·rw [List.mem_singleton.1 h1]
  exact hk
theorem d3k{wrong:Bool}{y:UInt8}{r:List UInt8}:(c6r wrong y r).length=(y :: r).length:=rfl
theorem b9f{id key sig:List UInt8}{lk:List (List UInt8)}(ver:Int)(L:UpL id key sig)(hlk:lk.length≤70)(u:World)(v:Value)(hr:Rd u 32 v lk.length (lk.flatMap bv)) :
 Calls Try.prog 25 #[v,Value.agg (a2o id ver key sig).toArray] u fun e w'=>∃v' c,e= .returned (.tuple #[v',.int .i64 c])∧Kept [] u w'∧c2r ver (okV id sig (a9j 1 (a5a ver key))) lk key u.heap.size v' c w':=by
 refine(b2q ver v u hr (by omega) L).mono ?_
 rintro e w' ⟨v',c,rfl,hk,h⟩
 refine⟨v',c,rfl,hk,?_⟩
 unfold okU at h
 unfold c2r
 generalize okV id sig (a9j 1 (a5a ver key))=ok at *
 have key1:(decide (1≤ver∧ver≤64) && ok)=true→(1≤ver∧ver≤64∧ok=true):=by
  intro h1
  rw [Bool.and_eq_true,decide_eq_true_eq]at h1
  exact⟨h1.1.1,h1.1.2,h1.2⟩
 rcases h with⟨h1,h2⟩ | ⟨h1,h2⟩ | ⟨h1,h2,h3,h4⟩
 ·refine .inl ⟨?_,h2⟩
  by_cases a:ver < 1
  ·exact .inl a
  ·by_cases b:64 < ver
   ·exact .inr (.inl b)
   ·refine .inr (.inr ?_)
    rwa [decide_eq_true (by omega),Bool.true_and]at h1
 ·exact .inr (.inl ⟨key1 h1,h2⟩)
 ·exact .inr (.inr ⟨key1 h1,h2,h3,h4⟩)
theorem d1f(v:Value)(keys:List (List UInt8))(ver:Int)(wrong:Bool)(w:World)(rd:Rd w 32 v keys.length (keys.flatMap bv))(_:keys.length≤9223372036854775807)(hl:∀k∈keys,k.length=32)(_:(Lit.int .i64 ver).wf=true) :
 Calls Try.prog 5 #[v,.int .i64 ver,.bool wrong] w fun e w'=>e= .returned (.bool true)∧Kept [] w w':=by
 have hs:=a0u 9 32
 have hk:(4 :: 4 :: a0j 30).length=32:=rfl
 have L:=a6q (le 9 32) ver hk
 have cm:=fun u=>a9u ver hs hk u
 obtain⟨y,r,hSG⟩:∃y r,c0q (le 9 32) ver (4 :: 4 :: a0j 30)=y :: r:=by
  cases h:c0q (le 9 32) ver (4 :: 4 :: a0j 30)with
  | nil=>have:=L.sig;rw [h]at this;cases this
  | cons y r=>exact⟨y,r,rfl⟩
 rw [hSG]at L cm
 have L2:UpL (idU (le 9 32)) (4 :: 4 :: a0j 30) (c6r wrong y r):=⟨L.id,hk,by rw [d3k];exact L.sig⟩
 have go:∀j,j≤keys.length→j≤70→(∀(B:Option Addr) (d:Nat),(∀W,(Instr.sliceAt 38 v none (some (.int .i64 (j:Int))) none).run Try.prog W= .ok (.slice B j d) W)→(∀u,Kept [] w u→Rd u 32 (.slice B j d) (keys.take j).length ((keys.take j).flatMap bv))→(keys.take j).length=j→Calls Try.prog 5 #[v,.int .i64 ver,.bool wrong] w fun e w'=>e= .returned (.bool true)∧Kept [] w w')→Calls Try.prog 5 #[v,.int .i64 ver,.bool wrong] w fun e w'=>e= .returned (.bool true)∧Kept [] w w':=by
  intro j hj _ h
  obtain⟨B,d,h1,h2⟩:=d3c rd hl hj
  exact h B d h1 h2 (by rw [List.length_take];omega)
 have ll:∀j,∀x∈keys.take j,x.length=32:=fun j x hx=>hl x (List.mem_of_mem_take hx)
 by_cases ht:(70:Int) < keys.length
 ·refine go 70 (by omega) (Nat.le_refl _) fun B d h1 h2 hlen=>?_
  have ll1:=ll 70
  have ll2:=d0n ll1 hk
  generalize keys.take 70=lk at *
  rw [←hlen]at h1
  have h2':∀u,Kept [] w u→Rd u 32 (.slice B lk.length d) lk.length (lk.flatMap bv):=fun u hu=>by have:=h2 u hu;rw [←hlen]at this;simpa using this
  have h3:(((lk.length:Nat):Int))=70:=by omega
  rw [h3]at h1
  exact d2b ver wrong (okV (idU (le 9 32)) (c6r wrong y r) (a9j 1 (a5a ver (4 :: 4 :: a0j 30)))) rd ht h3 (by omega) h1 h2' hs rfl L L2 (by rfl) (a3e _) (a3e _) hlit9 d7h b6e cm
   (fun u x hx=>b9f ver L2 (by omega) u x hx)
   (fun u va vb ha hb=>by have:=b2z va vb lk lk u ha hb ll1 ll1 (by omega);rwa [decide_eq_true rfl]at this)
   (fun u va vb ha hb=>by have:=b2z va vb (lk ++ [4 :: 4 :: a0j 30]) (lk ++ [4 :: 4 :: a0j 30]) u ha hb ll2 ll2 (by simp;omega);rwa [decide_eq_true rfl]at this)
   (fun u x hx=>a5i x lk u hx ll1 (by omega)) (fun u x hx=>a6g x lk u hx ll1 (by omega))
   (fun u x hx=>a5i x _ u hx ll2 (by simp;omega)) (fun u x hx=>a6g x _ u hx ll2 (by simp;omega))
   (fun u=>b3p ver hk u) (fun u x hx=>a9t (key:=idU (le 9 32)) 1 L2.id L2.sig x _ u hx (by rw [a9w hk];decide))
 ·have hle:keys.length≤70:=by omega
  refine go keys.length (Nat.le_refl _) hle fun B d h1 h2 hlen=>?_
  rw [List.take_length]at h2 hlen
  have ll1:=hl
  have ll2:=d0n hl hk
  exact c0v ver wrong (okV (idU (le 9 32)) (c6r wrong y r) (a9j 1 (a5a ver (4 :: 4 :: a0j 30)))) rd ht rfl hle h1 h2 hs rfl L L2 (by rfl) (a3e _) (a3e _) hlit9 d7h b6e cm
   (fun u x hx=>b9f ver L2 hle u x hx)
   (fun u va vb ha hb=>by have:=b2z va vb keys keys u ha hb ll1 ll1 (by omega);rwa [decide_eq_true rfl]at this)
   (fun u va vb ha hb=>by have:=b2z va vb (keys ++ [4 :: 4 :: a0j 30]) (keys ++ [4 :: 4 :: a0j 30]) u ha hb ll2 ll2 (by simp;omega);rwa [decide_eq_true rfl]at this)
   (fun u x hx=>a5i x keys u hx ll1 (by omega)) (fun u x hx=>a6g x keys u hx ll1 (by omega))
   (fun u x hx=>a5i x _ u hx ll2 (by simp;omega)) (fun u x hx=>a6g x _ u hx ll2 (by simp;omega))
   (fun u=>b3p ver hk u) (fun u x hx=>a9t (key:=idU (le 9 32)) 1 L2.id L2.sig x _ u hx (by rw [a9w hk];decide))
end Go.Proofs.Ytdbngnlpafcogaa
