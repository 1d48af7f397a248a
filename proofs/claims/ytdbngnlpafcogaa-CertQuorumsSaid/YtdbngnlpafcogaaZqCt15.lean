/-
  The certificates' laws: two quorums meet (CertQuorums).
-/
import Derived.Test.YtdbngnlpafcogaaZqCt14
set_option maxRecDepth 100000
namespace Go.Proofs.Ytdbngnlpafcogaa
open Go.RowKit Go.Mem Go.Txt
noncomputable def slQ (i:Nat):List UInt8:=a7o (a2t i) (a4i 4 [])
noncomputable def b6e (k:Nat) (l:List UInt8):List Shr:=a5q (b3k slQ (3 * k + 1)) l (3 * k + 1)
noncomputable def xlQ (k:Nat) (l:List UInt8):List Nat:=a3m (a6p (a2f (3 * k + 1)) 4 [] (b6e k l)) (2 * k + 1) 7
noncomputable def xgQ (k:Nat) (l:List UInt8):List Value:=(xlQ k l).flatMap fun i=>bv (b2k (b6e k l) (a6p (a2f (3 * k + 1)) 4 [] (b6e k l)) i)
theorem c3u(i:Nat):(slQ i).length=64:=b9t _ _
theorem slQ_ok{n i:Nat}(h:i < n):okR (a2f n) 4 [] i (slQ i)=true:=by
 unfold okR
 rw [b0o h,a2k,decide_eq_true h]
 exact c3f (a2t i) (a4i 4 [])
theorem e2t(k:Nat):b7y (a2f (3 * k + 1)).length=2 * k + 1:=by
 rw [a2k]
 unfold b7y
 omega
theorem b3s{k:Nat}(hk:k≤2)(l:List UInt8):c2e (a6p (a2f (3 * k + 1)) 4 [] (b6e k l))=mS slQ (3 * k + 1) l:=by
 obtain⟨L,h1,h2,h3⟩:=b9m (SL:=slQ) (l:=l) (n:=3 * k + 1) (3 * k + 1) (Nat.le_refl _)
 have e:b6e k l=L.map fun(i:Nat)=>((i:Int),slQ i):=h1
 have:=e4f (ok:=okR (a2f (3 * k + 1)) 4 []) (SL:=slQ) h2 (fun i hi=>by have:=h3 i hi;omega) (fun i hi=>slQ_ok (h3 i hi))
 unfold a6p mS
 rw [e,this,h1,List.length_map]
theorem c5x(k:Nat)(l:List UInt8):∀p∈b6e k l,p.2.length=64:=by
 obtain⟨L,h1,_,_⟩:=b9m (SL:=slQ) (l:=l) (n:=3 * k + 1) (3 * k + 1) (Nat.le_refl _)
 intro p hp
 have e:b6e k l=L.map fun(i:Nat)=>((i:Int),slQ i):=h1
 rw [e]at hp
 obtain⟨i,_,rfl⟩:=List.mem_map.1 hp
 exact c3u i
theorem b2q{k:Nat}(hk:k≤2){l:List UInt8}(h:2 * k + 1≤mS slQ (3 * k + 1) l):(xlQ k l).length=2 * k + 1:=c1d (by rw [b3s hk];exact h)
theorem e0o(k:Nat)(l:List UInt8):∀i∈xlQ k l,i < 3 * k + 1:=by
 intro i hi
 obtain⟨_,hm⟩:=b4k (a6p (a2f (3 * k + 1)) 4 [] (b6e k l)) (2 * k + 1) 7
 obtain⟨j,hj⟩:=Option.isSome_iff_exists.1 (hm i hi).2
 have h:=b4b _ _ _ (Nat.le_refl _) i j hj
 have:=e0a h.2.2.1
 rwa [a2k]at this
theorem c1t(k:Nat)(l:List UInt8):(xlQ k l).Nodup:=((b4k (a6p (a2f (3 * k + 1)) 4 [] (b6e k l)) (2 * k + 1) 7).1).imp fun h=>by omega
theorem c4j(f:Int)(av:Value)(la:List UInt8)(bv0:Value)(lb:List UInt8)(w:World)(_:(Lit.int .i64 f).wf=true)(ra:Rd w 1 av la.length (bv la))(_:la.length≤140737488351232)(rb:Rd w 1 bv0 lb.length (bv lb))(_:lb.length≤140737488351232) :
 Calls Try.prog 7 #[.int .i64 f,av,bv0] w fun e w'=>e= .returned (.bool true)∧Kept [] w w':=by
 have mk:∀(k:Nat) r b kv u l A c,k≤2→RgJ r b kv (a2f (3 * k + 1)) u→Rd u 65 (.slice A (mS slQ (3 * k + 1) l) c) (mS slQ (3 * k + 1) l) ((a5q (b3k slQ (3 * k + 1)) l (3 * k + 1)).flatMap shC)→_:=fun k r b kv u l A c hk J hs=>
  c2a J 4 (sh:=b6e k l) (body:=[]) (.slice none 0 0) (SA:=A) (sc:=c) (Rd.nil _ _) (by simp) hs (c5x k l) (by have:=e2y slQ (3 * k + 1) l;unfold mS at this;unfold b6e;omega)
 refine b8u (SL:=slQ) (keys:=a2f) (XL:=xlQ) (XG:=xgQ) f av bv0 w ra rb c3u b4o ?_ ?_ ?_ ?_ ?_ ?_ ?_ ?_
 ·intro k u hk
  refine(d5z k hk u).mono ?_
  rintro e w' ⟨r,b,kv,sv,rfl,h1,h2,h3,h4⟩
  exact⟨r,b,kv,sv,rfl,⟨_,h1⟩,h2,h3,h4⟩
 ·intro i u
  exact b8c (seed:=a2t i) 4 (a2y i) (.slice none 0 0) [] u (Rd.nil _ _) (by simp)
 ·intro n l u x y hn hx hy
  have hl:=e5i slQ n
  have:=d5b (sh:=b3k slQ n) (l:=l) x y u (by rw [hl];exact hx) hy (fun p hp=>by
   obtain⟨i,_,rfl⟩:=List.mem_map.1 hp
   exact c3u i) (by omega)
  rw [hl]at this
  exact this
 ·intro k r b kv u l A c hk hm J hs
  have h:=mk k r b kv u l A c hk J hs
  rw [b3s hk,e2t]at h
  refine h.mono ?_
  rintro e w' ⟨hj,k2,⟨_,rfl⟩ | ⟨h2,_⟩⟩
  ·exact⟨rfl,hj,k2⟩
  ·omega
 ·intro k r b kv u l A c hk hm J hs
  have h:=mk k r b kv u l A c hk J hs
  rw [b3s hk,e2t]at h
  refine h.mono ?_
  rintro e w' ⟨hj,k2,⟨h2,_⟩ | ⟨_,b2,s2,g2,rfl,hb,hs2,hg2⟩⟩
  ·omega
  ·have hl:=b2q hk hm
   unfold xlQ at hl
   rw [hl]at hs2 hg2
   obtain⟨BA,bc,rfl,e1⟩:=id hb
   obtain⟨SA,sc,rfl,e2⟩:=id hs2
   obtain⟨GA,gc,rfl,e3⟩:=id hg2
   exact⟨BA,bc,SA,sc,GA,gc,rfl,hj,k2,hb,hs2,hg2⟩
 ·intro k r b kv u l BA bc SA sc GA gc hk hm J hb hs hg
  have hl:=b2q hk hm
  have h0:=c9j (q:=2 * k + 1) (n:=3 * k + 1) (ok:=okR (a2f (3 * k + 1)) 4 []) (sh:=b6e k l) (fun i s h=>by have:=e0a h;rwa [a2k]at this) (by
   have:=b3s hk l
   unfold a6p at this
   rw [this]
   exact hm)
  have hs2:Rd u 1 (.slice SA (2 * k + 1) sc) ((xlQ k l).map fun(i:Nat)=>(i:Int)).length (iv ((xlQ k l).map fun(i:Nat)=>(i:Int))):=by rw [List.length_map,hl];exact hs
  have hg2:Rd u 64 (.slice GA (2 * k + 1) gc) ((xlQ k l).map fun i=>b2k (b6e k l) (a6p (a2f (3 * k + 1)) 4 [] (b6e k l)) i).length (((xlQ k l).map fun i=>b2k (b6e k l) (a6p (a2f (3 * k + 1)) 4 [] (b6e k l)) i).flatMap bv):=by
   rw [List.length_map,hl,List.flatMap_map]
   exact hg
  have h:=a7h J 4 (body:=[]) _ _ _ hb (by simp) hs2 hg2 (fun g hgm=>by
   obtain⟨i,hi,rfl⟩:=List.mem_map.1 hgm
   obtain⟨_,hmm⟩:=b4k (a6p (a2f (3 * k + 1)) 4 [] (b6e k l)) (2 * k + 1) 7
   obtain⟨j,hj⟩:=Option.isSome_iff_exists.1 (hmm i hi).2
   have hf:=b4b _ _ _ (Nat.le_refl _) i j hj
   show((b6e k l).getD ((a6p (a2f (3 * k + 1)) 4 [] (b6e k l) i).getD 0) (0,[])).2.length=64
   rw [hj]
   exact d9v hf.2.1 (c5x k l)) (by rw [List.length_map,hl];omega) (by rw [List.length_map,hl];omega)
  rw [e2t,a2k]at h
  have e0:a3n (2 * k + 1) (3 * k + 1) (okR (a2f (3 * k + 1)) 4 []) ((xlQ k l).map fun(i:Nat)=>(i:Int)) ((xlQ k l).map fun i=>b2k (b6e k l) (a6p (a2f (3 * k + 1)) 4 [] (b6e k l)) i)=0:=h0
  rw [e0]at h
  exact h
 ·exact fun k l hk hm=>b2q hk hm
 ·intro k l1 l2 hk h1 h2
  have:=c1a (k:=k) (c1t k l1) (c1t k l2) (e0o k l1) (e0o k l2) (b2q hk h1) (b2q hk h2)
  rwa [b2q hk h1]at this
end Go.Proofs.Ytdbngnlpafcogaa
