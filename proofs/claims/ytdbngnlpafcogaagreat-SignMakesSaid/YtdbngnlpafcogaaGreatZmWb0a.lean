/-
  Bytes: copied, numbers written, joined (the wire's texts, for programs with fewer functions).
-/
import Derived.Test.YtdbngnlpafcogaaGreatZmFam
import Derived.WalkKit
import Derived.WalkSpells
import Derived.WalkLawsBesides
import Derived.Deep.LoopGhost
import Derived.Deep.DeepCutAuto
import Derived.Deep.CutBlock
set_option maxRecDepth 100000
namespace Go.Proofs.YtdbngnlpafcogaaGreat
open Go.RowKit Go.Mem
theorem a2x:SliceT Tryz.prog 23 5 1 1 (.int .u8 0):=⟨Tryz.underlying23,by kernel_rfl,rfl,by omega⟩
structure New (w w':World) (v:Value) (xs:List UInt8):Prop where
 ow:Ow w' 5 1 v xs.length (bv xs)
 kept:Kept [] w w'
 near:Near none w.heap.size v
def be8(v:Nat):List UInt8:=(List.range 8).map fun j=>UInt8.ofNat (v / 256 ^ (7 - j))
theorem a8a(v:Nat):(be8 v).length=8:=by simp [be8]
theorem d5n(v j:Nat)(h:j < 8):(be8 v).take (j + 1)=(be8 v).take j ++ [UInt8.ofNat (v / 256 ^ (7 - j))]:=by
 rw [List.take_succ_eq_append_getElem (by rw [a8a];exact h)]
 simp [be8]
theorem d5f(v j:Nat)(h:j < 8):Value.int .u8 ((v:Int) / 2 ^ (56 - 8 * j) % 256)=a1q (UInt8.ofNat (v / 256 ^ (7 - j))):=by
 have e:(2:Nat) ^ (56 - 8 * j)=256 ^ (7 - j):=by
  have:j=0∨j=1∨j=2∨j=3∨j=4∨j=5∨j=6∨j=7:=by omega
  rcases this with rfl | rfl | rfl | rfl | rfl | rfl | rfl | rfl <;> rfl
 unfold a1q
 rw [UInt8.toNat_ofNat',←e]
 simp
theorem New.step{w w1 w2:World}{v v':Value}{xs ys:List UInt8}(h:New w w1 v xs){S:List Nat}(ho:Ow w2 5 1 v' ys.length (bv ys))(hk:Kept S w1 w2)(hS:∀k∈S,w.heap.size≤k)(hb:v'.ownBlock=v.ownBlock∨∃k,v'.ownBlock=some k∧w.heap.size≤k):New w w2 v' ys:=by
 refine⟨ho,h.kept.fresh hk hS,?_⟩
 rcases hb with hb | ⟨k,hb,hk⟩
 ·rcases h.near with h | ⟨g,h,hg⟩
  ·exact .inl (hb.trans h)
  ·exact .inr ⟨g,hb.trans h,hg⟩
 ·exact .inr ⟨k,hb,hk⟩
theorem New.old{w w1:World}{v:Value}{xs:List UInt8}(h:New w w1 v xs):∀k∈v.ownBlock.toList,w.heap.size≤k:=by
 intro k hk
 have hk:=e4l hk
 rcases h.near with h | ⟨g,h,hg⟩
 ·rw [hk]at h;cases h
 ·rw [hk]at h;have:k=g:=by simpa using h
  omega
theorem New.next{w w1 w2:World}{v v':Value}{xs ys:List UInt8}(h:New w w1 v xs)(h2:New w1 w2 v' ys):New w w2 v' ys:=by
 refine⟨h2.ow,h.kept.a0i h2.kept,?_⟩
 rcases h2.near with h3 | ⟨g,h3,hg⟩
 ·exact .inl h3
 ·exact .inr ⟨g,h3,by have:=h.kept.size;omega⟩
theorem New.a0i{w w1 w2:World}{v:Value}{xs:List UInt8}(h:New w w1 v xs)(hk:Kept [] w1 w2):New w w2 v xs:=⟨h.ow.a1o hk,h.kept.a0i hk,h.near⟩
theorem New.nil(w:World):New w w (.slice none 0 0) []:=⟨Ow.nil _ _ _,Kept.refl _ _,.inl rfl⟩
structure Parts (w:World) (pv:Value) (ps:List (Value × List UInt8)):Prop where
 outer:Rd w 1 pv ps.length (ps.map (·.1))
 inner:∀x∈ps,Rd w 1 x.1 x.2.length (bv x.2)
theorem Parts.a1o{w w':World}{pv:Value}{ps:List (Value × List UInt8)}(h:Parts w pv ps)(hk:Kept [] w w'):Parts w' pv ps:=
 ⟨h.outer.a1o hk,fun x hx=>(h.inner x hx).a1o hk⟩
abbrev bytesOf(ps:List (Value × List UInt8)):List (List UInt8):=ps.map (·.2)
theorem d8w(n:Nat)(w:World)(hn:n≤140737488355328) :
 Calls Tryz.prog 166 #[.slice none 0 0,.int .i64 n] w fun e w'=>∃v',e= .returned v'∧New w w' v' []:=by
 by_cases h0:n=0
 ·subst h0
  go_enter Tryz.func166,Tryz.ntmps166
  go_wp2_with fail
  go_ret
  exact⟨_,rfl,New.nil w⟩
 ·go_enter Tryz.func166,Tryz.ntmps166
  go_wp2_with (at_builtin;refine b2i a2x rfl rfl Tryz.underlying3 rfl (.tmp 20) (.tmp 21) rfl rfl (Ow.nil w 5 1) n rfl ?_ ?_ ?_)
  case refine_1=>omega
  case refine_2=>omega
  intro v' w2 ho hk hb
  obtain⟨B,d,hB,oB,bB⟩:=ow_to a2x ho .i64 0 (Nat.zero_le _)
  have hB2:∀W,(Instr.sliceAt 23 v' none (some (.int .i64 0)) none).run Tryz.prog W= .ok (.slice B 0 d) W:=fun W=>hB W
  have oB2:=hjd oB
  have bB2:=hjd bB
  have hk2:=hjd hk
  have hb2:=hjd hb
  clear oB bB hk hb ho hB
  go_wp2_with fail
  go_ret
  refine⟨.slice B 0 d,rfl,by simpa using oB2.out,by simpa [Value.ownBlock]using hk2.out,?_⟩
  rcases hb2.out with h | h
  ·exact .inl (by rw [bB2.out,h];rfl)
  ·exact .inr ⟨_,by rw [bB2.out,h],Nat.le_refl _⟩
def a1k(ps:List (Value × List UInt8)):List UInt8:=(bytesOf ps).flatten
theorem b0o(a b:List (Value × List UInt8)):a1k (a ++ b)=a1k a ++ a1k b:=by
 unfold a1k bytesOf
 rw [List.map_append,List.flatten_append]
theorem a9l(ps:List (Value × List UInt8))(k:Nat)(h:k < ps.length):a1k (ps.take (k + 1))=a1k (ps.take k) ++ ps[k].2:=by
 rw [List.take_succ_eq_append_getElem h,b0o]
 simp [a1k]
theorem b4u(ps:List (Value × List UInt8))(k:Nat):(a1k (ps.take k)).length≤(a1k ps).length:=by
 have:a1k ps=a1k (ps.take k) ++ a1k (ps.drop k):=by rw [←b0o,List.take_append_drop]
 rw [this,List.length_append];omega
set_option maxHeartbeats 1000000 in
theorem c7n(pv:Value)(ps:List (Value × List UInt8))(w:World)(hp:Parts w pv ps)(hn:ps.length≤9223372036854775807)(hl:(a1k ps).length≤140737488355328) :
 Calls Tryz.prog 128 #[pv] w fun e w'=>∃v',e= .returned v'∧New w w' v' (a1k ps):=by
 have hP:=hjd hp
 have hL:=hjd hl
 obtain⟨PA,pc,rfl,_,_,_⟩:=hp.outer
 clear hp hl
 go_enter Tryz.func128,Tryz.ntmps128
 go_wp2_with fail
 go_loop [3,11] (fun r i=>∃k:Nat,k≤ps.length∧i= .int .i64 k∧r= .int .i64 (a1k (ps.take k)).length) (fun _ i=>ps.length - (intOf i).toNat)
 case atStart=>exact⟨0,Nat.zero_le _,rfl,by simp [a1k]⟩
 case round=>
  obtain⟨k,hk,rfl,rfl⟩:=hrel
  by_cases hlt:k < ps.length
  ·obtain⟨pb,po,pc2,heq,_,hcell⟩:=hP.out.outer.at_ (by omega)
   cases heq
   have hin:=hP.out.inner ps[k] (List.getElem_mem _)
   have hcl:=hcell k ps[k].1 (by simp [hlt])
   have hle:=b4u ps (k + 1)
   have hj:=a9l ps k hlt
   rw [hj,List.length_append]at hle
   generalize hpk:ps[k]=x at *
   obtain⟨p1,p2⟩:=x
   obtain⟨B,bc,hB,_,_,_⟩:=hin
   dsimp only at hB hcl hle hj
   subst hB
   have hLL:=hL.out
   have hj2:=hjd hj
   clear hcell hj
   go_wp2_with fail
   exact⟨⟨k + 1,by omega,by go_num,by rw [hj2.out,List.length_append];simp⟩,by simp [intOf];omega⟩
  ·obtain rfl:k=ps.length:=by omega
   have ht:ps.take ps.length=ps:=List.take_length
   rw [ht]
   go_wp2_with (go_at_call 166;refine(d8w _ _ hL.out).mono ?_;rintro e w1 ⟨gv,rfl,hg⟩;have hg2:=hjd hg;clear hg)
   go_loopg [6,27] ps.length (fun g rv i wk=>∃k:Nat,g + k=ps.length∧i= .int .i64 k∧New w wk rv (a1k (ps.take k)))
   case atStart=>exact⟨0,rfl,rfl,by simpa [a1k]using hg2.out⟩
   case round=>
    obtain⟨k,hk,rfl,hn2⟩:=hrel
    by_cases hlt2:k < ps.length
    ·have hPk:=hP.out.a1o hn2.kept
     obtain⟨pb,po,pc2,heq,_,hcell⟩:=hPk.outer.at_ (by omega)
     cases heq
     have hin:=hPk.inner ps[k] (List.getElem_mem _)
     have hcl:=hcell k ps[k].1 (by simp [hlt2])
     have hle:=b4u ps (k + 1)
     have hj:=a9l ps k hlt2
     rw [hj,List.length_append]at hle
     generalize hpk:ps[k]=x at *
     obtain⟨p1,p2⟩:=x
     dsimp only at hin hcl hle hj
     have hin2:=hjd hin
     obtain⟨B,bc,rfl,_,_,_⟩:=hin
     have hsz:(a1k (ps.take k)).length + p2.length≤140737488355328:=by have:=hL.out;omega
     have hsz2:=hjd hsz
     have hj2:=hjd hj
     obtain⟨OA,oc,rfl,_⟩:=hn2.ow.shape
     have hn3:=hjd hn2
     clear hcell hj hPk hle hsz hn2
     go_wp2_with (at_builtin;refine a5a a2x rfl (.tmp 31) (.tmp 32) rfl rfl hn3.out.ow rfl hin2.out (a5z _) ?_ ?_ ?_)
     case refine_1=>have:=hsz2.out;omega
     case refine_2=>have:=hsz2.out;omega
     intro v' w2 hown hk2 hb2
     have hn4:New w w2 v' (a1k (ps.take (k + 1))):=hn3.out.step (by rw [hj2.out,List.length_append];simpa [bv]using hown) hk2 hn3.out.old (by
      rcases hb2 with h | h
      ·exact .inl h
      ·exact .inr ⟨_,h,hn3.out.kept.size⟩)
     have hn5:=hjd hn4
     clear hown hk2 hb2 hn4
     go_wp2_with fail
     go_roundg (ps.length - (k + 1))
     case measure=>omega
     case rel=>exact⟨k + 1,by omega,by go_num,hn5.out⟩
    ·rw [show k=ps.length from by omega,List.take_length]at hn2
     have hn3:=hjd hn2
     clear hn2
     go_wp2_with fail
     go_ret
     exact⟨_,rfl,hn3.out⟩
end Go.Proofs.YtdbngnlpafcogaaGreat
