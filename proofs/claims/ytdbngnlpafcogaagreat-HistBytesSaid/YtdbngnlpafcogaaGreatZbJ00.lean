/-
  Bytes: copied, numbers written, joined (the wire's texts, for programs with fewer functions).
  Digests: the roots' fractions.
  Bytes cloned; a number's bytes.
  Digests: a message in blocks of 64 bytes.
  Digests: words turned.
  Digests: what a block does: words of 32 bits, plain.
  The document's digests: words turned (32 bits).
  The document's digests: its tables, its words (32 bits).
  Slice literals of one-cell elements.
  The document's digests: words for the walk (32 bits).
  A region that draws its order, as in Text5, whose last operation waits for all others: what the others need may be gone behind it.
-/
import Derived.Test.YtdbngnlpafcogaaGreatZbFam
import Derived.WalkKit
import Derived.WalkSpells
import Derived.WalkLawsBesides
import Derived.Deep.LoopGhost
import Derived.Deep.DeepCutAuto
import Derived.Deep.CutBlock
set_option maxRecDepth 100000
namespace Go.Proofs.YtdbngnlpafcogaaGreat
open Go.RowKit Go.Mem
theorem a1l:SliceT Tryz.prog 23 5 1 1 (.int .u8 0):=⟨Tryz.underlying23,by kernel_rfl,rfl,by omega⟩
@[go_sem] theorem eqnilB (A:Option Addr) (n c n' c':Nat) (w:World):(binOp .eql 23 (.slice A n c) (.slice none n' c')).run Tryz.prog w= .ok (.bool A.isNone) w:=b9v Tryz.underlying23 A n c n' c' w
structure New (w w':World) (v:Value) (xs:List UInt8):Prop where
 ow:Ow w' 5 1 v xs.length (bv xs)
 kept:Kept [] w w'
 near:d5x none w.heap.size v
def be8(v:Nat):List UInt8:=(List.range 8).map fun j=>UInt8.ofNat (v / 256 ^ (7 - j))
theorem a1p(v:Nat):(be8 v).length=8:=by simp [be8]
theorem b8l(v j:Nat)(h:j < 8):(be8 v).take (j + 1)=(be8 v).take j ++ [UInt8.ofNat (v / 256 ^ (7 - j))]:=by
 rw [List.take_succ_eq_append_getElem (by rw [a1p];exact h)]
 simp [be8]
theorem b8z(v j:Nat)(h:j < 8):Value.int .u8 ((v:Int) / 2 ^ (56 - 8 * j) % 256)=a1h (UInt8.ofNat (v / 256 ^ (7 - j))):=by
 have e:(2:Nat) ^ (56 - 8 * j)=256 ^ (7 - j):=by
  have:j=0∨j=1∨j=2∨j=3∨j=4∨j=5∨j=6∨j=7:=by omega
  rcases this with rfl | rfl | rfl | rfl | rfl | rfl | rfl | rfl <;> rfl
 unfold a1h
 rw [UInt8.toNat_ofNat',←e]
 simp
theorem New.step{w w1 w2:World}{v v':Value}{xs ys:List UInt8}(h:New w w1 v xs){S:List Nat}(ho:Ow w2 5 1 v' ys.length (bv ys))(hk:Kept S w1 w2)(hS:∀k∈S,w.heap.size≤k)(hb:v'.ownBlock=v.ownBlock∨∃k,v'.ownBlock=some k∧w.heap.size≤k):New w w2 v' ys:=by
 refine⟨ho,h.kept.fresh hk hS,?_⟩
 rcases hb with hb | ⟨k,hb,hk⟩
 ·rcases h.near with h | ⟨g,h,hg⟩
  ·exact .inl (hb.trans h)
  ·exact .inr ⟨g,hb.trans h,hg⟩
 ·exact .inr ⟨k,hb,hk⟩
theorem New.old{w w1:World}{v:Value}{xs:List UInt8}(h:New w w1 v xs):∀k∈v.ownBlock.toList,w.heap.size≤k:=by
 intro k hk
 have hk:=e4d hk
 rcases h.near with h | ⟨g,h,hg⟩
 ·rw [hk]at h;cases h
 ·rw [hk]at h;have:k=g:=by simpa using h
  omega
theorem New.next{w w1 w2:World}{v v':Value}{xs ys:List UInt8}(h:New w w1 v xs)(h2:New w1 w2 v' ys):New w w2 v' ys:=by
 refine⟨h2.ow,h.kept.a0g h2.kept,?_⟩
 rcases h2.near with h3 | ⟨g,h3,hg⟩
 ·exact .inl h3
 ·exact .inr ⟨g,h3,by have:=h.kept.size;omega⟩
theorem New.a0g{w w1 w2:World}{v:Value}{xs:List UInt8}(h:New w w1 v xs)(hk:Kept [] w1 w2):New w w2 v xs:=⟨h.ow.a0o hk,h.kept.a0g hk,h.near⟩
theorem New.nil(w:World):New w w (.slice none 0 0) []:=⟨Ow.nil _ _ _,Kept.refl _ _,.inl rfl⟩
structure Parts (w:World) (pv:Value) (ps:List (Value × List UInt8)):Prop where
 outer:Rd w 1 pv ps.length (ps.map (·.1))
 inner:∀x∈ps,Rd w 1 x.1 x.2.length (bv x.2)
theorem Parts.a0o{w w':World}{pv:Value}{ps:List (Value × List UInt8)}(h:Parts w pv ps)(hk:Kept [] w w'):Parts w' pv ps:=
 ⟨h.outer.a0o hk,fun x hx=>(h.inner x hx).a0o hk⟩
abbrev bytesOf(ps:List (Value × List UInt8)):List (List UInt8):=ps.map (·.2)
theorem d7s(n:Nat)(w:World)(hn:n≤140737488355328) :
 Calls Tryz.prog 166 #[.slice none 0 0,.int .i64 n] w fun e w'=>∃v',e= .returned v'∧New w w' v' []:=by
 by_cases h0:n=0
 ·subst h0
  go_enter Tryz.func166,Tryz.ntmps166
  go_wp2_with fail
  go_ret
  exact⟨_,rfl,New.nil w⟩
 ·go_enter Tryz.func166,Tryz.ntmps166
  go_wp2_with (at_builtin;refine a8z a1l rfl rfl Tryz.underlying3 rfl (.tmp 20) (.tmp 21) rfl rfl (Ow.nil w 5 1) n rfl ?_ ?_ ?_)
  case refine_1=>omega
  case refine_2=>omega
  intro v' w2 ho hk hb
  obtain⟨B,d,hB,oB,bB⟩:=ow_to a1l ho .i64 0 (Nat.zero_le _)
  have hB2:∀W,(Instr.sliceAt 23 v' none (some (.int .i64 0)) none).run Tryz.prog W= .ok (.slice B 0 d) W:=fun W=>hB W
  have oB2:=hjd oB
  have bB2:=hjd bB
  have hk2:=hjd hk
  have hb2:=hjd hb
  clear oB bB hk hb ho hB
  go_wp2_with fail
  go_ret
  refine⟨.slice B 0 d,rfl,by simpa using oB2.out,by simpa [Value.ownBlock]using hk2.out,?_⟩
  rcases hb2.out with h | h
  ·exact .inl (by rw [bB2.out,h];rfl)
  ·exact .inr ⟨_,by rw [bB2.out,h],Nat.le_refl _⟩
def a0u(ps:List (Value × List UInt8)):List UInt8:=(bytesOf ps).flatten
theorem b0y(a b:List (Value × List UInt8)):a0u (a ++ b)=a0u a ++ a0u b:=by
 unfold a0u bytesOf
 rw [List.map_append,List.flatten_append]
theorem b0i(ps:List (Value × List UInt8))(k:Nat)(h:k < ps.length):a0u (ps.take (k + 1))=a0u (ps.take k) ++ ps[k].2:=by
 rw [List.take_succ_eq_append_getElem h,b0y]
 simp [a0u]
theorem b5j(ps:List (Value × List UInt8))(k:Nat):(a0u (ps.take k)).length≤(a0u ps).length:=by
 have:a0u ps=a0u (ps.take k) ++ a0u (ps.drop k):=by rw [←b0y,List.take_append_drop]
 rw [this,List.length_append];omega
set_option maxHeartbeats 1000000 in
theorem b2f(pv:Value)(ps:List (Value × List UInt8))(w:World)(hp:Parts w pv ps)(hn:ps.length≤9223372036854775807)(hl:(a0u ps).length≤140737488355328) :
 Calls Tryz.prog 128 #[pv] w fun e w'=>∃v',e= .returned v'∧New w w' v' (a0u ps):=by
 have hP:=hjd hp
 have hL:=hjd hl
 obtain⟨PA,pc,rfl,_,_,_⟩:=hp.outer
 clear hp hl
 go_enter Tryz.func128,Tryz.ntmps128
 go_wp2_with fail
 go_loop [3,11] (fun r i=>∃k:Nat,k≤ps.length∧i= .int .i64 k∧r= .int .i64 (a0u (ps.take k)).length) (fun _ i=>ps.length - (intOf i).toNat)
 case atStart=>exact⟨0,Nat.zero_le _,rfl,by simp [a0u]⟩
 case round=>
  obtain⟨k,hk,rfl,rfl⟩:=hrel
  by_cases hlt:k < ps.length
  ·obtain⟨pb,po,pc2,heq,_,hcell⟩:=hP.out.outer.at_ (by omega)
   cases heq
   have hin:=hP.out.inner ps[k] (List.getElem_mem _)
   have hcl:=hcell k ps[k].1 (by simp [hlt])
   have hle:=b5j ps (k + 1)
   have hj:=b0i ps k hlt
   rw [hj,List.length_append]at hle
   generalize hpk:ps[k]=x at *
   obtain⟨p1,p2⟩:=x
   obtain⟨B,bc,hB,_,_,_⟩:=hin
   dsimp only at hB hcl hle hj
   subst hB
   have hLL:=hL.out
   have hj2:=hjd hj
   clear hcell hj
   go_wp2_with fail
   exact⟨⟨k + 1,by omega,by go_num,by rw [hj2.out,List.length_append];simp⟩,by simp [intOf];omega⟩
  ·obtain rfl:k=ps.length:=by omega
   have ht:ps.take ps.length=ps:=List.take_length
   rw [ht]
   go_wp2_with (go_at_call 166;refine(d7s _ _ hL.out).mono ?_;rintro e w1 ⟨gv,rfl,hg⟩;have hg2:=hjd hg;clear hg)
   go_loopg [6,27] ps.length (fun g rv i wk=>∃k:Nat,g + k=ps.length∧i= .int .i64 k∧New w wk rv (a0u (ps.take k)))
   case atStart=>exact⟨0,rfl,rfl,by simpa [a0u]using hg2.out⟩
   case round=>
    obtain⟨k,hk,rfl,hn2⟩:=hrel
    by_cases hlt2:k < ps.length
    ·have hPk:=hP.out.a0o hn2.kept
     obtain⟨pb,po,pc2,heq,_,hcell⟩:=hPk.outer.at_ (by omega)
     cases heq
     have hin:=hPk.inner ps[k] (List.getElem_mem _)
     have hcl:=hcell k ps[k].1 (by simp [hlt2])
     have hle:=b5j ps (k + 1)
     have hj:=b0i ps k hlt2
     rw [hj,List.length_append]at hle
     generalize hpk:ps[k]=x at *
     obtain⟨p1,p2⟩:=x
     dsimp only at hin hcl hle hj
     have hin2:=hjd hin
     obtain⟨B,bc,rfl,_,_,_⟩:=hin
     have hsz:(a0u (ps.take k)).length + p2.length≤140737488355328:=by have:=hL.out;omega
     have hsz2:=hjd hsz
     have hj2:=hjd hj
     obtain⟨OA,oc,rfl,_⟩:=hn2.ow.shape
     have hn3:=hjd hn2
     clear hcell hj hPk hle hsz hn2
     go_wp2_with (at_builtin;refine a1v a1l rfl (.tmp 31) (.tmp 32) rfl rfl hn3.out.ow rfl hin2.out (a2q _) ?_ ?_ ?_)
     case refine_1=>have:=hsz2.out;omega
     case refine_2=>have:=hsz2.out;omega
     intro v' w2 hown hk2 hb2
     have hn4:New w w2 v' (a0u (ps.take (k + 1))):=hn3.out.step (by rw [hj2.out,List.length_append];simpa [bv]using hown) hk2 hn3.out.old (by
      rcases hb2 with h | h
      ·exact .inl h
      ·exact .inr ⟨_,h,hn3.out.kept.size⟩)
     have hn5:=hjd hn4
     clear hown hk2 hb2 hn4
     go_wp2_with fail
     go_roundg (ps.length - (k + 1))
     case measure=>omega
     case rel=>exact⟨k + 1,by omega,by go_num,hn5.out⟩
    ·rw [show k=ps.length from by omega,List.take_length]at hn2
     have hn3:=hjd hn2
     clear hn2
     go_wp2_with fail
     go_ret
     exact⟨_,rfl,hn3.out⟩
end Go.Proofs.YtdbngnlpafcogaaGreat
namespace Go.Proofs.YtdbngnlpafcogaaGreat
open Go.RowKit Go.Mem Go.Txt
def a3o:List Nat:=[0x6a09e667f3bcc908,0xbb67ae8584caa73b,0x3c6ef372fe94f82b,0xa54ff53a5f1d36f1,0x510e527fade682d1,0x9b05688c2b3e6c1f,0x1f83d9abfb41bd6b,0x5be0cd19137e2179]
theorem d4n(l:List Nat):(uv l).toArray.all (·.oneCell')=true:=by
 rw [Array.all_eq_true_iff_forall_mem]
 intro u hu
 simp only [List.mem_toArray,uv,List.mem_map]at hu
 obtain⟨x,_,rfl⟩:=hu
 rfl
theorem r8z:(Tryz.prog.info? 155).map (·.zero)=some (some (.agg (uv (List.replicate 8 0)).toArray)):=by kernel_rfl
theorem r8R:RowT Tryz.prog 155 8:=⟨⟨_,Tryz.underlying155,rfl⟩,by kernel_rfl⟩
set_option maxHeartbeats 800000 in
theorem c0f(w:World):Calls Tryz.prog 129 #[] w fun e w'=>e= .returned (.agg (uv a3o).toArray)∧Kept [] w w':=by
 go_enter Tryz.func129,Tryz.ntmps129
 go_wp2_with (first
  | ((with_reducible refine a0h (o:=⟨some 0,_,_,_,_,_⟩) rfl rfl r8z ?_);intro g0 w1 m0)
  | (with_reducible refine a0l 1 ?_;refine b9d (v:=.agg (uv a3o).toArray) rfl (by kernel_rfl) ?_)
  | ((with_reducible refine a8s (.tmp 0) (.tmp 1) ?_);(refine a0c (cs:=(uv a3o).toArray) (o:=⟨none,Op.store 155 (.tmp 0) (.tmp 1),_,_,_,_⟩) r8R rfl (.tmp 0) (.tmp 1) rfl rfl rfl m0.blk rfl rfl (d4n _) ?_);intro w2 b0 k0
     have B:=hjd b0
     have K:=hjd (m0.kept.a0p k0 m0.le)
     clear m0 b0 k0))
 exact a1g r8R rfl rfl B.out rfl rfl ⟨rfl,K.out⟩
def a1z:List Nat:=[4794697086780616226,8158064640168781261,13096744586834688815,16840607885511220156,4131703408338449720,6480981068601479193,10538285296894168987,12329834152419229976,15566598209576043074,1334009975649890238,2608012711638119052,6128411473006802146,8268148722764581231,9286055187155687089,11230858885718282805,13951009754708518548,16472876342353939154,17275323862435702243,1135362057144423861,2597628984639134821,3308224258029322869,5365058923640841347,6679025012923562964,8573033837759648693,10970295158949994411,12119686244451234320,12683024718118986047,13788192230050041572,14330467153632333762,15395433587784984357,489312712824947311,1452737877330783856,2861767655752347644,3322285676063803686,5560940570517711597,5996557281743188959,7280758554555802590,8532644243296465576,9350256976987008742,10552545826968843579,11727347734174303076,12113106623233404929,14000437183269869457,14369950271660146224,15101387698204529176,15463397548674623760,17586052441742319658,1182934255886127544,1847814050463011016,2177327727835720531,2830643537854262169,3796741975233480872,4115178125766777443,5681478168544905931,6601373596472566643,7507060721942968483,8399075790359081724,8693463985226723168,9568029438360202098,10144078919501101548,10430055236837252648,11840083180663258601,13761210420658862357,14299343276471374635,14566680578165727644,15097957966210449927,16922976911328602910,17689382322260857208,500013540394364858,748580250866718886,1242879168328830382,1977374033974150939,2944078676154940804,3659926193048069267,4368137639120453308,4836135668995329356,5532061633213252278,6448918945643986474,6902733635092675308,7801388544844847127]
theorem c80z:(Tryz.prog.info? 178).map (·.zero)=some (some (.agg (uv (List.replicate 80 0)).toArray)):=by kernel_rfl
theorem c80R:RowT Tryz.prog 178 80:=⟨⟨_,Tryz.underlying178,rfl⟩,by kernel_rfl⟩
set_option maxHeartbeats 800000 in
theorem c1m(w:World):Calls Tryz.prog 130 #[] w fun e w'=>e= .returned (.agg (uv a1z).toArray)∧Kept [] w w':=by
 go_enter Tryz.func130,Tryz.ntmps130
 go_wp2_with (first
  | ((with_reducible refine a0h (o:=⟨some 0,_,_,_,_,_⟩) rfl rfl c80z ?_);intro g0 w1 m0)
  | (with_reducible refine a0l 1 ?_;refine b9d (v:=.agg (uv a1z).toArray) rfl (by kernel_rfl) ?_)
  | ((with_reducible refine a8s (.tmp 0) (.tmp 1) ?_);(refine a0c (cs:=(uv a1z).toArray) (o:=⟨none,Op.store 178 (.tmp 0) (.tmp 1),_,_,_,_⟩) c80R rfl (.tmp 0) (.tmp 1) rfl rfl rfl m0.blk rfl rfl (d4n _) ?_);intro w2 b0 k0
     have B:=hjd b0
     have K:=hjd (m0.kept.a0p k0 m0.le)
     clear m0 b0 k0))
 exact a1g c80R rfl rfl B.out rfl rfl ⟨rfl,K.out⟩
theorem New.c9y{w w1 w2 w3:World}{v v':Value}{xs:List UInt8}{x:UInt8}(h:New w w1 v xs)(hk:Kept [] w1 w2)(ho:Ow w3 5 1 v' (xs.length + 1) (bv xs ++ bv [x]))(k3:Kept v.ownBlock.toList w2 w3)(f3:v'.ownBlock=v.ownBlock∨v'.ownBlock=some w2.heap.size):New w w3 v' (xs ++ [x]):=
 h.step (by rw [List.length_append];simpa [bv]using ho) (hk.of0.trans' k3) h.old (by
  rcases f3 with e | e
  ·exact .inl e
  ·exact .inr ⟨_,e,Nat.le_trans h.kept.size hk.size⟩)
end Go.Proofs.YtdbngnlpafcogaaGreat
namespace Go.Proofs.YtdbngnlpafcogaaGreat
open Go.RowKit Go.Mem
theorem c1n(v:Value)(xs:List UInt8)(w:World)(hr:Rd w 1 v xs.length (bv xs))(hx:xs.length≤140737488355328) :
 Calls Tryz.prog 127 #[v] w fun e w'=>∃v',e= .returned v'∧New w w' v' xs:=by
 obtain⟨A,c,hv,hl,hc,hcell⟩:=hr
 cases A with
 | none=>
   have h0:xs= []:=by
    rcases Nat.eq_zero_or_pos xs.length with h | h
    ·exact List.eq_nil_of_length_eq_zero h
    ·obtain⟨b,o,h,_⟩:=hcell h;cases h
   subst h0
   subst hv
   go_enter Tryz.func127,Tryz.ntmps127
   go_wp2
   go_ret
   exact⟨_,rfl,Ow.nil _ _ _,Kept.refl _ _,.inl rfl⟩
 | some ad=>
   have hrd:Rd w 1 (.slice (some ad) xs.length c) xs.length (bv xs):=⟨_,_,rfl,hl,hc,hcell⟩
   have H:=hjd hrd
   clear hrd hl hcell
   subst hv
   go_enter Tryz.func127,Tryz.ntmps127
   go_wp2_with (at_builtin;refine a1v a1l rfl (.tmp 5) (.tmp 6) rfl rfl (xs:=[]) (n:=0) (Ow.b7k (a6o (by simp) rfl rfl (by omega))) rfl (H.out.alloc _) (a2q _) ?_ ?_ ?_)
   case refine_1=>omega
   case refine_2=>omega
   intro v' w' hown hk hb
   go_wp2
   go_ret
   have hk0:Kept [] w w':=Kept.fresh ((Kept.refl [] w).alloc _) hk (by simp [Value.ownBlock])
   refine⟨_,rfl,by simpa using hown,hk0,?_⟩
   rcases hb with hb | hb
   ·exact .inr ⟨_,hb,Nat.le_refl _⟩
   ·exact .inr ⟨_,hb,by simp⟩
theorem a6x(b:Value)(bs:List UInt8)(v:Nat)(w:World)(hr:Rd w 1 b bs.length (bv bs))(hb:bs.length≤140737488355320)(_:v < 18446744073709551616) :
 Calls Tryz.prog 63 #[b,.int .u64 v] w fun e w'=>∃v',e= .returned v'∧New w w' v' (bs ++ be8 v):=by
 have hr2:=hjd hr
 obtain⟨A,c,rfl,_,_,_⟩:=hr
 go_enter Tryz.func63,Tryz.ntmps63
 go_wp2_with (go_at_call 127;refine(c1n _ bs w hr2.out (by omega)).mono ?_;rintro e w1 ⟨ov,rfl,hn⟩)
 go_loopg [5,6] 8 (fun g ov i wk=>∃j:Nat,g + j=8∧i= .int .i64 (56 - 8 * (j:Int))∧New w wk ov (bs ++ (be8 v).take j))
 case atStart=>exact⟨0,rfl,rfl,by simpa using hn⟩
 case round=>
  obtain⟨j,hj,rfl,hn⟩:=hrel
  by_cases hlt:j < 8
  ·have h0:(0:Int)≤56 - 8 * (j:Int):=by omega
   have hl:(bs ++ (be8 v).take j).length=bs.length + j:=by rw [List.length_append,List.length_take,a1p];omega
   obtain⟨OA,oc,hov,_⟩:=hn.ow.shape
   rw [hl]at hov
   subst hov
   have hn2:=hjd hn
   have hl2:=hjd hl
   clear hn hl
   go_wp2_with (at_builtin;refine a1v a1l rfl (.tmp 13) (.tmp 19) rfl rfl (hn2.out.ow.alloc _) rfl (m:=1) (news:=bv [UInt8.ofNat (v / 256 ^ (7 - j))]) (Rd.c7u rfl (by simp [b8z v j hlt]) rfl (by omega)) (a2q _) ?_ ?_ ?_)
   case refine_1=>rw [hl2.out];omega
   case refine_2=>rw [hl2.out];omega
   intro v' w2 hown hk2 hb2
   have hown2:Ow w2 5 1 v' (bs ++ (be8 v).take (j + 1)).length (bv (bs ++ (be8 v).take (j + 1))):=by
    have e:bs ++ (be8 v).take (j + 1)=(bs ++ (be8 v).take j) ++ [UInt8.ofNat (v / 256 ^ (7 - j))]:=by rw [b8l v j hlt,List.append_assoc]
    rw [e,List.length_append]
    simpa [bv]using hown
   have hn3:New w w2 v' (bs ++ (be8 v).take (j + 1)):=hn2.out.step hown2 (((Kept.refl _ wr).alloc _).trans' hk2) (hn2.out.old) (by
    rcases hb2 with h | h
    ·exact .inl h
    ·exact .inr ⟨_,h,by have:=hn2.out.kept.size;simp;omega⟩)
   clear hown hk2 hb2 hown2
   go_wp2_with fail
   go_roundg (8 - (j + 1))
   case measure=>omega
   case rel=>exact⟨j + 1,by omega,by go_num,hn3⟩
  ·obtain rfl:j=8:=by omega
   have hn2:=hjd hn
   clear hn
   go_wp2_with fail
   go_ret
   exact⟨_,rfl,by have:=hn2.out;rwa [List.take_of_length_le (by rw [a1p];omega)]at this⟩
end Go.Proofs.YtdbngnlpafcogaaGreat
namespace Go.Proofs.YtdbngnlpafcogaaGreat
open Go.RowKit Go.Mem Go.Txt
def pzS(n:Nat):Nat:=(119 - n % 64) % 64
def pad(m:List UInt8):List UInt8:=(m ++ 128 :: List.replicate (pzS m.length) 0) ++ be8 (8 * m.length)
theorem c8k(n:Nat):pzS n < 64:=Nat.mod_lt _ (by decide)
theorem c3u{n j:Nat}(h:j≤pzS n):((n + 1 + j + 8) % 64=0)↔j=pzS n:=by unfold pzS at *;omega
theorem b8x(m:List UInt8):(pad m).length % 64=0:=by
 unfold pad
 rw [List.length_append,List.length_append,List.length_cons,List.length_replicate,a1p]
 unfold pzS;omega
set_option maxHeartbeats 1600000 in
theorem b2j(pv:Value)(ps:List (Value × List UInt8))(w:World)(hp:Parts w pv ps)(hn:ps.length≤9223372036854775807)(hl:(a0u ps).length≤1000000000000) :
 Calls Tryz.prog 131 #[pv,.int .i64 64] w fun e w'=>∃v',e= .returned v'∧New w w' v' (pad (a0u ps)):=by
 have cc:=hjd (b2f pv ps w hp hn (by omega))
 clear hp
 generalize a0u ps=m at *
 go_enter Tryz.func131,Tryz.ntmps131
 go_wp2_with (first
  | (go_at_call 128;(with_reducible refine(cc.out).mono ?_);rintro e w1 ⟨ov,rfl,h⟩
     obtain⟨A,c,rfl,_⟩:=h.ow.shape
     have H:=hjd h
     clear h)
  | ((with_reducible refine a0l 14 ?_);(refine a1c (o:=⟨some 14,_,_,_,_,_⟩) (v0:=.int .u8 128) (cells:=(bv [128]).toArray) rfl a1l rfl rfl (by decide) rfl rfl ?_);intro g7 w7 m7
     have b7:=hjd (show Rd w7 1 (.slice (some ⟨g7,0,none⟩) 1 1) 1 (bv [128])from⟨_,_,rfl,rfl,by omega,fun _=>⟨g7,0,rfl,fun j u hu=>by rw [m7.blk.cell];simpa using hu⟩⟩)
     have k7:=hjd m7.kept
     clear m7)
  | (at_builtin
     refine a1v (n:=m.length) (m:=1) a1l rfl (.tmp 13) (.tmp 14) rfl rfl (H.out.ow.a0o k7.out) rfl b7.out (a2q _) (by omega) (by omega) ?_
     intro v' w9 o9 k9 f9
     obtain⟨A2,c2,hv',hlc'⟩:=o9.shape
     subst hv'
     replace H:=hjd (H.out.c9y k7.out o9 k9 f9)
     clear o9 k9 f9 k7 b7))
 have hl2:=hjd hl
 go_loopg [5] (pzS m.length) (fun fu o wk=>∃(j:Nat) (A:Option Addr) (c:Nat),j≤pzS m.length∧fu + j=pzS m.length∧o= .slice A (m.length + 1 + j) c∧Hid (New w wk (.slice A (m.length + 1 + j) c) (m ++ 128 :: List.replicate j 0)))
 case atStart=>exact⟨0,A2,c2,by omega,by omega,rfl,H⟩
 case round=>
  clear H
  obtain⟨j,A,c,hj,hfu,rfl,H⟩:=hrel
  have hz:=c8k m.length
  by_cases hlt:j < pzS m.length
  ·have hne:¬(m.length + 1 + j + 8) % 64=0:=fun e=>by have:=(c3u hj).1 e;omega
   generalize hL:m.length + 1 + j=L at *
   have hne1:(((L:Int) + 8) % 64=0)=False:=eq_false (by omega)
   have hne2:(((L:Int) + 8).tmod 64=0)=False:=eq_false (by rw [Int.tmod_eq_emod_of_nonneg (by omega)];omega)
   have hLs:L≤1000000000100:=by omega
   go_wp2_with (first
    | ((with_reducible refine a0l 25 ?_);(refine a1c (o:=⟨some 25,_,_,_,_,_⟩) (v0:=.int .u8 0) (cells:=(bv [0]).toArray) rfl a1l rfl rfl (by decide) rfl rfl ?_);intro g7 w7 m7
       have b7:=hjd (show Rd w7 1 (.slice (some ⟨g7,0,none⟩) 1 1) 1 (bv [0])from⟨_,_,rfl,rfl,by omega,fun _=>⟨g7,0,rfl,fun j u hu=>by rw [m7.blk.cell];simpa using hu⟩⟩)
       have k7:=hjd m7.kept
       clear m7)
    | (at_builtin
       refine a1v (n:=L) (m:=1) a1l rfl (.tmp 24) (.tmp 25) rfl rfl (by have:=H.out.ow.a0o k7.out;have e:(m ++ 128 :: List.replicate j 0).length=L:=(by simp;omega);rw [e]at this;exact this) rfl b7.out (a2q _) (by omega) (by omega) ?_
       intro v' w9 o9 k9 f9
       have e:(m ++ 128 :: List.replicate j 0).length=L:=by simp;omega
       obtain⟨A3,c3,hv',hlc'⟩:=o9.shape
       subst hv'
       replace H:=hjd (H.out.c9y k7.out (by rw [e];exact o9) k9 f9)
       clear o9 k9 f9 k7 b7 e))
   go_roundg (pzS m.length - (j + 1))
   case measure=>omega
   case rel=>
    have e:m ++ 128 :: List.replicate (j + 1) 0=(m ++ 128 :: List.replicate j 0) ++ [0]:=by simp [List.replicate_succ']
    refine⟨j + 1,A3,c3,by omega,by omega,by rw [←hL];rfl,?_⟩
    rw [e,show m.length + 1 + (j + 1)=L + 1 from by omega]
    exact H
  ·obtain rfl:j=pzS m.length:=by omega
   have heq:=(c3u hj).2 rfl
   generalize hL:m.length + 1 + pzS m.length=L at *
   have heq1:(((L:Int) + 8) % 64=0):=by omega
   have heq2:(((L:Int) + 8).tmod 64=0):=by rw [Int.tmod_eq_emod_of_nonneg (by omega)];omega
   have hLs:L≤1000000000100:=by omega
   have e:(m ++ 128 :: List.replicate (pzS m.length) 0).length=L:=by simp;omega
   have ep:pad m=(m ++ 128 :: List.replicate (pzS m.length) 0) ++ be8 (8 * m.length):=rfl
   replace ep:=hjd ep
   generalize m ++ 128 :: List.replicate (pzS m.length) 0=M0 at *
   have q8:IntKind.u64.wrap (8 * (m.length:Int))=((8 * m.length:Nat):Int):=by rw [IntKind.wrap_u64];omega
   generalize 8 * m.length=q at *
   subst e
   go_wp2_with (first
    | (at_builtin
       refine a8z a1l rfl rfl Tryz.underlying3 rfl (.tmp 27) (.tmp 30) rfl rfl H.out.ow 0 rfl (by omega) (by omega) ?_
       intro v' w9 o9 k9 f9
       obtain⟨A2,c2,hv',hlc'⟩:=o9.shape
       subst hv'
       replace H:=hjd (show New w w9 (.slice A2 M0.length c2) M0 from H.out.step (by simpa using o9) k9 H.out.old (by
        rcases f9 with e | e
        ·exact .inl e
        ·exact .inr ⟨_,e,H.out.kept.size⟩))
       clear o9 k9 f9))
   clear heq1 heq2 heq
   go_loopg [5,7] 8 (fun fu o i wk=>∃(j:Nat) (A:Option Addr) (c:Nat),j≤8∧fu + j=8∧i= .int .i64 (56 - 8 * (j:Int))∧o= .slice A (M0.length + j) c∧Hid (New w wk (.slice A (M0.length + j) c) (M0 ++ (be8 q).take j)))
   case atStart=>exact⟨0,A2,c2,by omega,by omega,rfl,rfl,by simpa using H⟩
   case round=>
    clear H
    obtain⟨j,A,c,hj8,hfu8,rfl,rfl,H⟩:=hrel
    have el:(M0 ++ (be8 q).take j).length=M0.length + j:=by rw [List.length_append,List.length_take,a1p];omega
    by_cases hlt8:j < 8
    ·have h0:(0:Int)≤56 - 8 * (j:Int):=by omega
     have hb8:=b8z q j hlt8
     have hbt:=b8l q j hlt8
     generalize UInt8.ofNat (q / 256 ^ (7 - j))=x at *
     replace hbt:=hjd hbt
     replace el:=hjd el
     have hb9:=hjd hb8
     clear hb8
     go_wp2_with (first
      | ((with_reducible refine a0l 43 ?_);(refine a1c (o:=⟨some 43,_,_,_,_,_⟩) (v0:=a1h x) (cells:=(bv [x]).toArray) rfl a1l rfl hb9.out (by decide) rfl rfl ?_);intro g7 w7 m7
         have b7:=hjd (show Rd w7 1 (.slice (some ⟨g7,0,none⟩) 1 1) 1 (bv [x])from⟨_,_,rfl,rfl,by omega,fun _=>⟨g7,0,rfl,fun j u hu=>by rw [m7.blk.cell];simpa using hu⟩⟩)
         have k7:=hjd m7.kept
         clear m7)
      | (at_builtin
         refine a1v (n:=M0.length + j) (m:=1) a1l rfl (.tmp 36) (.tmp 43) rfl rfl (by have:=H.out.ow.a0o k7.out;rw [el.out]at this;exact this) rfl b7.out (a2q _) (by omega) (by omega) ?_
         intro v' w9 o9 k9 f9
         obtain⟨A3,c3,hv',hlc'⟩:=o9.shape
         subst hv'
         replace H:=hjd (H.out.c9y k7.out (by rw [el.out];exact o9) k9 f9)
         clear o9 k9 f9 k7 b7))
     go_roundg (8 - (j + 1))
     case measure=>omega
     case rel=>
      refine⟨j + 1,A3,c3,by omega,by omega,by go_num,rfl,?_⟩
      rw [hbt.out,←List.append_assoc]
      exact H
    ·obtain rfl:j=8:=by omega
     have et:(be8 q).take 8=be8 q:=List.take_of_length_le (by rw [a1p];omega)
     rw [et]at H
     clear el et
     go_wp2_with fail
     go_ret
     rw [ep.out]
     exact⟨_,rfl,H.out⟩
end Go.Proofs.YtdbngnlpafcogaaGreat
namespace Go.Proofs.YtdbngnlpafcogaaGreat
open Go.RowKit Go.Mem Go.Txt
abbrev W32(x:BitVec 32):Value:=.int .u32 (x.toNat:Int)
theorem ofInt32(x:BitVec 32):BitVec.ofInt 32 (x.toNat:Int)=x:=by
 apply BitVec.eq_of_toNat_eq
 rw [BitVec.toNat_ofInt]
 have:=x.isLt
 omega
theorem b8a(x:BitVec 32):IntKind.u32.wrap (x.toNat:Int)=x.toNat:=by
 have:=x.isLt
 rw [IntKind.wrap_u32];omega
theorem b4i(x y:BitVec 32):bits .xor .u32 (x.toNat:Int) (y.toNat:Int)=((x ^^^ y).toNat:Nat):=by
 show IntKind.u32.wrap (((BitVec.ofInt 32 (x.toNat:Int)) ^^^ (BitVec.ofInt 32 (y.toNat:Int))).toNat:Nat)=_
 rw [ofInt32,ofInt32,b8a]
theorem d5b(x y:BitVec 32):bits .and .u32 (x.toNat:Int) (y.toNat:Int)=((x &&& y).toNat:Nat):=by
 show IntKind.u32.wrap (((BitVec.ofInt 32 (x.toNat:Int)) &&& (BitVec.ofInt 32 (y.toNat:Int))).toNat:Nat)=_
 rw [ofInt32,ofInt32,b8a]
theorem bor(x y:BitVec 32):bits .or .u32 (x.toNat:Int) (y.toNat:Int)=((x ||| y).toNat:Nat):=by
 show IntKind.u32.wrap (((BitVec.ofInt 32 (x.toNat:Int)) ||| (BitVec.ofInt 32 (y.toNat:Int))).toNat:Nat)=_
 rw [ofInt32,ofInt32,b8a]
theorem c2u(x y:BitVec 32):IntKind.u32.wrap ((x.toNat:Int) + (y.toNat:Int))=((x + y).toNat:Nat):=by
 rw [IntKind.wrap_u32,BitVec.toNat_add];omega
theorem bnot(x:BitVec 32):bits .xor .u32 4294967295 (x.toNat:Int)=((~~~x).toNat:Nat):=by
 have e:BitVec.ofInt 32 4294967295=BitVec.allOnes 32:=by decide
 show IntKind.u32.wrap (((BitVec.ofInt 32 4294967295) ^^^ (BitVec.ofInt 32 (x.toNat:Int))).toNat:Nat)=_
 rw [ofInt32,e,BitVec.allOnes_xor,b8a]
theorem e3t(x:BitVec 32)(s:Nat):(x.toNat:Int) * 2 ^ s % 4294967296=((x <<< s).toNat:Nat):=by
 rw [BitVec.toNat_shiftLeft,Nat.shiftLeft_eq]
 have h:((2:Int) ^ s)=((2 ^ s:Nat):Int):=by norm_cast
 rw [h]
 generalize 2 ^ s=q
 show(x.toNat:Int) * (q:Int) % ((4294967296:Nat):Int)=((x.toNat * q % 4294967296:Nat):Int)
 rw [Int.natCast_emod,Int.natCast_mul]
theorem e1h(x:BitVec 32)(s:Nat):(x.toNat:Int) / 2 ^ s=((x >>> s).toNat:Nat):=by
 rw [BitVec.toNat_ushiftRight,Nat.shiftRight_eq_div_pow]
 have h:((2:Int) ^ s)=((2 ^ s:Nat):Int):=by norm_cast
 rw [h]
 norm_cast
theorem a3c(x:BitVec 32)(k:Int)(s:Nat)(hs:bits .and .u64 (IntKind.u64.wrap k) 31=s)(h31:s≤31)(w:World) :
 Calls Tryz.prog 132 #[W32 x,.int .i64 k] w fun e w'=>e= .returned (W32 (x <<< s ||| x >>> (32 - s)))∧Kept [] w w':=by
 have K:=hjd (Kept.refl [] w)
 have h1:(32:Int) - s=((32 - s:Nat):Int):=by omega
 have h2:IntKind.u64.wrap ((32 - s:Nat):Int)=((32 - s:Nat):Int):=by rw [IntKind.wrap_u64];omega
 have h3:∀t:Nat,((t:Int)).toNat=t:=fun t=>rfl
 go_enter Tryz.func132,Tryz.ntmps132
 go_wp2_with fail
 go_ret
 refine⟨?_,K.out⟩
 show Ending.returned (.int .u32 (bits .or .u32 ((x.toNat:Int) * 2 ^ s % 4294967296) ((x.toNat:Int) / 2 ^ (32 - s))))=_
 rw [e3t,e1h,bor]
end Go.Proofs.YtdbngnlpafcogaaGreat
namespace Go.Proofs.YtdbngnlpafcogaaGreat
open Go.RowKit Go.Mem Go.Txt
abbrev B32:=BitVec 32
def rl(x:B32)(s:Nat):B32:=x <<< s ||| x >>> (32 - s)
def ls0(x:B32):B32:=(rl x 25 ^^^ rl x 14) ^^^ x >>> 3
def ls1(y:B32):B32:=(rl y 15 ^^^ rl y 13) ^^^ y >>> 10
def us0(a:B32):B32:=(rl a 30 ^^^ rl a 19) ^^^ rl a 10
def us1(e:B32):B32:=(rl e 26 ^^^ rl e 21) ^^^ rl e 7
def chB(e f g:B32):B32:=(e &&& f) ^^^ (~~~e &&& g)
def mjB(a b c:B32):B32:=((a &&& b) ^^^ (a &&& c)) ^^^ (b &&& c)
def d7q(p:Nat→UInt8)(t:Nat):B32:=((BitVec.ofNat 32 (p (4 * t)).toNat <<< 24 ||| BitVec.ofNat 32 (p (4 * t + 1)).toNat <<< 16) ||| BitVec.ofNat 32 (p (4 * t + 2)).toNat <<< 8) ||| BitVec.ofNat 32 (p (4 * t + 3)).toNat
def sch(p:Nat→UInt8)(t:Nat):B32:=
 if _h:t < 16 then d7q p t else ls1 (sch p (t - 2)) + sch p (t - 7) + ls0 (sch p (t - 15)) + sch p (t - 16)
termination_by t
decreasing_by all_goals omega
theorem c1j(p:Nat→UInt8){t:Nat}(h:t < 16):sch p t=d7q p t:=by rw [sch,dif_pos h]
theorem c0z(p:Nat→UInt8){t:Nat}(h:¬t < 16):sch p t=ls1 (sch p (t - 2)) + sch p (t - 7) + ls0 (sch p (t - 15)) + sch p (t - 16):=by rw [sch,dif_neg h]
def b3p(n:Nat):B32:=BitVec.ofNat 32 (n / 4294967296)
def rnd(k m:B32)(v:Nat→B32):Nat→B32
 | 0=>v 7 + us1 (v 4) + chB (v 4) (v 5) (v 6) + k + m + (us0 (v 0) + mjB (v 0) (v 1) (v 2))
 | 4=>v 3 + (v 7 + us1 (v 4) + chB (v 4) (v 5) (v 6) + k + m)
 | i + 1=>v i
def a5c(p:Nat→UInt8)(h:Nat→B32):Nat→Nat→B32
 | 0=>h
 | t + 1=>rnd (b3p (a1z.getD t 0)) (sch p t) (a5c p h t)
def blk(p:Nat→UInt8)(h:Nat→B32):Nat→B32:=fun i=>h i + a5c p h 64 i
def a5f(b:List UInt8):Nat→Nat→B32
 | 0=>fun i=>b3p (a3o.getD i 0)
 | n + 1=>blk (fun j=>b.getD (64 * n + j) 0) (a5f b n)
def c0w(h:Nat→B32):List UInt8:=(List.range 32).map fun j=>UInt8.ofNat ((h (j / 4)).toNat / 2 ^ (24 - 8 * (j % 4)))
def sha(m:List UInt8):List UInt8:=c0w (a5f (pad m) ((pad m).length / 64))
theorem a4q(m:List UInt8):(sha m).length=32:=by simp [sha,c0w]
theorem ch_or(e f g:B32):(e &&& f) ||| (~~~e &&& g)=chB e f g:=by
 unfold chB
 apply BitVec.eq_of_getLsbD_eq
 intro i hi
 simp only [BitVec.getLsbD_or,BitVec.getLsbD_and,BitVec.getLsbD_xor,BitVec.getLsbD_not,hi,decide_true,Bool.true_and]
 cases e.getLsbD i <;> cases f.getLsbD i <;> cases g.getLsbD i <;> rfl
theorem mj_or(a b c:B32):((a &&& b) ||| (a &&& c)) ||| (b &&& c)=mjB a b c:=by
 unfold mjB
 apply BitVec.eq_of_getLsbD_eq
 intro i _
 simp only [BitVec.getLsbD_or,BitVec.getLsbD_and,BitVec.getLsbD_xor]
 cases a.getLsbD i <;> cases b.getLsbD i <;> cases c.getLsbD i <;> rfl
end Go.Proofs.YtdbngnlpafcogaaGreat
namespace Go.Proofs.YtdbngnlpafcogaaGreat
open Go.RowKit Go.Mem Go.Txt
abbrev U32(x:BitVec 32):Value:=.int .u64 (x.toNat:Int)
theorem ofInt64(n:Nat)(h:n < 18446744073709551616):BitVec.ofInt 64 (n:Int)=BitVec.ofNat 64 n:=by
 apply BitVec.eq_of_toNat_eq
 rw [BitVec.toNat_ofInt,BitVec.toNat_ofNat]
 omega
theorem a7z(x:BitVec 64):IntKind.u64.wrap (x.toNat:Int)=x.toNat:=by
 have:=x.isLt
 rw [IntKind.wrap_u64];omega
theorem or64d(m n:Nat)(hm:m < 18446744073709551616)(hn:n < 18446744073709551616):bits .or .u64 (m:Int) (n:Int)=((m ||| n:Nat):Int):=by
 show IntKind.u64.wrap (((BitVec.ofInt 64 (m:Int)) ||| (BitVec.ofInt 64 (n:Int))).toNat:Nat)=_
 rw [ofInt64 m hm,ofInt64 n hn,a7z,BitVec.toNat_or,BitVec.toNat_ofNat,BitVec.toNat_ofNat,Nat.mod_eq_of_lt hm,Nat.mod_eq_of_lt hn]
theorem and64(m n:Nat)(hm:m < 18446744073709551616)(hn:n < 18446744073709551616):bits .and .u64 (m:Int) (n:Int)=((m &&& n:Nat):Int):=by
 show IntKind.u64.wrap (((BitVec.ofInt 64 (m:Int)) &&& (BitVec.ofInt 64 (n:Int))).toNat:Nat)=_
 rw [ofInt64 m hm,ofInt64 n hn,a7z,BitVec.toNat_and,BitVec.toNat_ofNat,BitVec.toNat_ofNat,Nat.mod_eq_of_lt hm,Nat.mod_eq_of_lt hn]
theorem xor64(m n:Nat)(hm:m < 18446744073709551616)(hn:n < 18446744073709551616):bits .xor .u64 (m:Int) (n:Int)=((m ^^^ n:Nat):Int):=by
 show IntKind.u64.wrap (((BitVec.ofInt 64 (m:Int)) ^^^ (BitVec.ofInt 64 (n:Int))).toNat:Nat)=_
 rw [ofInt64 m hm,ofInt64 n hn,a7z,BitVec.toNat_xor,BitVec.toNat_ofNat,BitVec.toNat_ofNat,Nat.mod_eq_of_lt hm,Nat.mod_eq_of_lt hn]
theorem uxor(x y:BitVec 32):bits .xor .u64 (x.toNat:Int) (y.toNat:Int)=((x ^^^ y).toNat:Nat):=by
 rw [xor64 _ _ (Nat.lt_trans x.isLt (by decide)) (Nat.lt_trans y.isLt (by decide)),BitVec.toNat_xor]
theorem uand(x y:BitVec 32):bits .and .u64 (x.toNat:Int) (y.toNat:Int)=((x &&& y).toNat:Nat):=by
 rw [and64 _ _ (Nat.lt_trans x.isLt (by decide)) (Nat.lt_trans y.isLt (by decide)),BitVec.toNat_and]
theorem uor(x y:BitVec 32):bits .or .u64 (x.toNat:Int) (y.toNat:Int)=((x ||| y).toNat:Nat):=by
 rw [or64d _ _ (Nat.lt_trans x.isLt (by decide)) (Nat.lt_trans y.isLt (by decide)),BitVec.toNat_or]
theorem d6l(x:BitVec 32)(n:Nat)(h1:1≤n)(h2:n≤31):(bits .or .u64 ((x.toNat:Int) / 2 ^ n) (IntKind.u64.wrap ((x.toNat:Int) * 2 ^ (32 - n)))).tmod 4294967296=((rl x (32 - n)).toNat:Nat):=by
 have hx:=x.isLt
 have hp:2 ^ (32 - n)≤2 ^ 31:=Nat.pow_le_pow_right (by decide) (by omega)
 have hm:x.toNat * 2 ^ (32 - n) < 18446744073709551616:=by
  have:=Nat.mul_le_mul (Nat.le_of_lt hx) hp
  omega
 have e1:(x.toNat:Int) / 2 ^ n=((x.toNat / 2 ^ n:Nat):Int):=by rw [Int.natCast_ediv,Int.natCast_pow];rfl
 have e2:(x.toNat:Int) * 2 ^ (32 - n) % 18446744073709551616=((x.toNat * 2 ^ (32 - n):Nat):Int):=by
  have:(x.toNat:Int) * 2 ^ (32 - n)=((x.toNat * 2 ^ (32 - n):Nat):Int):=by rw [Int.natCast_mul,Int.natCast_pow];rfl
  rw [this];omega
 have hd:x.toNat / 2 ^ n < 18446744073709551616:=Nat.lt_of_le_of_lt (Nat.div_le_self _ _) (by omega)
 rw [IntKind.wrap_u64,e1,e2,or64d _ _ hd hm,Int.tmod_eq_emod_of_nonneg (by omega)]
 unfold rl
 rw [BitVec.toNat_or,BitVec.toNat_shiftLeft,BitVec.toNat_ushiftRight,Nat.shiftLeft_eq,Nat.shiftRight_eq_div_pow,show 32 - (32 - n)=n from by omega]
 have hmod:((x.toNat / 2 ^ n ||| x.toNat * 2 ^ (32 - n)) % 4294967296:Nat)=x.toNat * 2 ^ (32 - n) % 2 ^ 32 ||| x.toNat / 2 ^ n:=by
  rw [show(4294967296:Nat)=2 ^ 32 from rfl,Nat.or_mod_two_pow,Nat.or_comm]
  congr 1
  exact Nat.mod_eq_of_lt (Nat.lt_of_le_of_lt (Nat.div_le_self _ _) hx)
 rw [←hmod]
 omega
theorem b0v(x:BitVec 32)(n:Nat)(h1:1≤n)(h2:n≤31)(w:World) :
 Calls Tryz.prog 167 #[U32 x,.int .u64 (n:Int),.int .u64 32] w fun e w'=>e= .returned (U32 (rl x (32 - n)))∧Kept [] w w':=by
 have K:=hjd (Kept.refl [] w)
 have e1:(32:Int) - n=((32 - n:Nat):Int):=by omega
 have e3:∀t:Nat,((t:Int)).toNat=t:=fun t=>rfl
 have hv:=d6l x n h1 h2
 go_enter Tryz.func167,Tryz.ntmps167
 go_wp2_with fail
 go_ret
 exact⟨rfl,K.out⟩
end Go.Proofs.YtdbngnlpafcogaaGreat
namespace Go.Mem
open Go.RowKit Go.Txt
section
variable {P:Program} {w:World} {a:Act} {ops:Array Oper} {rest:List Oper} {o:Oper} {Q:Exit→Act→World→Prop} {t e:TypeId} {bytes:Nat} {z:Value}
theorem b0l(hgd:Region.wanted o (yielded ops a.tmps)=true)(T:SliceT P t e 1 bytes z){n:Nat}{ps:Array (Nat × Operand)}(ho:o.op= .buildSlice t n ps){vs:List (Nat × Value)}(hv:(ps.map fun(p:Nat × Operand)=>(p.1,a.eval p.2)).toList=vs)
 (h0:0 < n) (hsmall:n≤2 ^ 24) {cells:Array Value} (hf:Instr.fill (fun i=>some (i * 1,1)) ((Array.range (n * 1)).map (z.cells[· % z.cells.size]!)) vs=some cells)
 (h:∀g w',Made w w' g e cells→wpList P ops Q rest (a.put o.dst (.slice (some ⟨g,0,none⟩) n n)) w'):wpList P ops Q (o :: rest) a w:=by
 obtain⟨i,hi,hz,hs,hb⟩:=info_parts T.2
 refine a1m hgd fun _ hK=>wp_buildSlice t e n _ ho cells i z T.1 hi hz (by rw [hs];omega) (by rw [hs];omega) (by rw [hs];exact(congrArg (Instr.fill _ _) hv).trans hf) (hK _ _ (h _ _ ⟨Blk.new _ _ _,(Kept.refl [] w).alloc _,Nat.le_refl _⟩))
end
end Go.Mem
namespace Go.Proofs.YtdbngnlpafcogaaGreat
open Go.RowKit Go.Mem Go.Txt
theorem c2b:SliceT Tryz.prog 158 67 1 8 (.int .u64 0):=⟨Tryz.underlying158,by kernel_rfl,rfl,by omega⟩
theorem uintsT:SliceT Tryz.prog 183 25 1 8 (.int .u64 0):=⟨Tryz.underlying183,by kernel_rfl,rfl,by omega⟩
theorem b5b(n:Nat)(w:World):Calls Tryz.prog 134 #[.int .u64 (n:Int),.int .u64 32] w fun e w'=>e= .returned (.int .u64 ((n % 4294967296:Nat):Int))∧Kept [] w w':=by
 have K:=hjd (Kept.refl [] w)
 have e1:(n:Int) % 4294967296=((n % 4294967296:Nat):Int):=rfl
 have e2:(n:Int).tmod 4294967296=((n % 4294967296:Nat):Int):=by rw [Int.tmod_eq_emod_of_nonneg (by omega)];rfl
 generalize n % 4294967296=m at *
 go_enter Tryz.func134,Tryz.ntmps134
 go_wp2_with fail
 go_ret
 exact⟨rfl,K.out⟩
set_option maxHeartbeats 800000 in
theorem b5f(x:BitVec 32)(a b c:Nat)(ha1:1≤a)(ha:a≤31)(hb1:1≤b)(hb:b≤31)(hc1:1≤c)(hc:c≤31)(w:World) :
 Calls Tryz.prog 135 #[U32 x,.int .u64 32,.int .u64 (a:Int),.int .u64 (b:Int),.int .u64 (c:Int),.bool true] w fun e w'=>e= .returned (U32 ((rl x (32 - a) ^^^ rl x (32 - b)) ^^^ x >>> c))∧Kept [] w w':=by
 have ca:=hjd (b0v x a ha1 ha)
 have cb:=hjd (b0v x b hb1 hb)
 have e3:∀t:Nat,((t:Int)).toNat=t:=fun t=>rfl
 go_enter Tryz.func135,Tryz.ntmps135
 go_wp2_with (first
  | (go_at_call 167;(with_reducible refine(ca.out _).mono ?_);rintro e w1 ⟨rfl,k1⟩;have K:=hjd k1;clear k1 ca)
  | (go_at_call 167;(with_reducible refine(cb.out _).mono ?_);rintro e w1 ⟨rfl,k1⟩;replace K:=hjd (K.out.a0g k1);clear k1 cb))
 go_ret
 refine⟨?_,K.out⟩
 show Ending.returned (.int .u64 (bits .xor .u64 (bits .xor .u64 ((rl x (32 - a)).toNat:Int) ((rl x (32 - b)).toNat:Int)) ((x.toNat:Int) / 2 ^ c)))=_
 rw [e1h,uxor,uxor]
set_option maxHeartbeats 800000 in
theorem b6m(x:BitVec 32)(a b c:Nat)(ha1:1≤a)(ha:a≤31)(hb1:1≤b)(hb:b≤31)(hc1:1≤c)(hc:c≤31)(w:World) :
 Calls Tryz.prog 135 #[U32 x,.int .u64 32,.int .u64 (a:Int),.int .u64 (b:Int),.int .u64 (c:Int),.bool false] w fun e w'=>e= .returned (U32 ((rl x (32 - a) ^^^ rl x (32 - b)) ^^^ rl x (32 - c)))∧Kept [] w w':=by
 have ca:=hjd (b0v x a ha1 ha)
 have cb:=hjd (b0v x b hb1 hb)
 have cc:=hjd (b0v x c hc1 hc)
 go_enter Tryz.func135,Tryz.ntmps135
 go_wp2_with (first
  | (go_at_call 167;(with_reducible refine(ca.out _).mono ?_);rintro e w1 ⟨rfl,k1⟩;have K:=hjd k1;clear k1 ca)
  | (go_at_call 167;(with_reducible refine(cb.out _).mono ?_);rintro e w1 ⟨rfl,k1⟩;replace K:=hjd (K.out.a0g k1);clear k1 cb)
  | (go_at_call 167;(with_reducible refine(cc.out _).mono ?_);rintro e w1 ⟨rfl,k1⟩;replace K:=hjd (K.out.a0g k1);clear k1 cc))
 go_ret
 refine⟨?_,K.out⟩
 show Ending.returned (.int .u64 (bits .xor .u64 (bits .xor .u64 ((rl x (32 - a)).toNat:Int) ((rl x (32 - b)).toNat:Int)) ((rl x (32 - c)).toNat:Int)))=_
 rw [uxor,uxor]
theorem c9d(t:Nat)(ht:t < 8)(w:World):Calls Tryz.prog 133 #[.int .i64 (t:Int)] w fun e w'=>e= .returned (.int .u64 ((a3o.getD t 0:Nat):Int))∧Kept [] w w':=by
 have hg:=hjd (show∀(u:World) (g:Nat),Blk u g 67 (uv a3o).toArray→u.cell? ⟨g,t,none⟩=some (.int .u64 ((a3o.getD t 0:Nat):Int))from fun u g hb=>by
  have hl:t < a3o.length:=ht
  rw [hb.uget t hl,List.getD_eq_getElem?_getD,List.getElem?_eq_getElem hl];rfl)
 generalize a3o.getD t 0=r at *
 go_enter Tryz.func133,Tryz.ntmps133
 go_wp2_with (first
  | ((with_reducible refine a0l 3 ?_);(refine b0l (o:=⟨some 3,_,_,_,_,_⟩) (cells:=(uv a3o).toArray) (vs:=(uv a3o).zipIdx.map fun p=>(p.2,p.1)) rfl c2b rfl (by kernel_rfl) (by decide) (by decide) (by kernel_rfl) ?_);intro g3 w3 m3
     have q:=hg.out w3 g3 m3.blk
     have K:=hjd m3.kept
     clear m3))
 go_ret
 exact⟨rfl,K.out⟩
set_option maxHeartbeats 800000 in
theorem d8k(t:Nat)(ht:t < 80)(w:World):Calls Tryz.prog 136 #[.int .i64 (t:Int)] w fun e w'=>e= .returned (.int .u64 ((a1z.getD t 0:Nat):Int))∧Kept [] w w':=by
 have hg:=hjd (show∀(u:World) (g:Nat),Blk u g 67 (uv a1z).toArray→u.cell? ⟨g,t,none⟩=some (.int .u64 ((a1z.getD t 0:Nat):Int))from fun u g hb=>by
  have hl:t < a1z.length:=ht
  rw [hb.uget t hl,List.getD_eq_getElem?_getD,List.getElem?_eq_getElem hl];rfl)
 generalize a1z.getD t 0=r at *
 go_enter Tryz.func136,Tryz.ntmps136
 go_wp2_with (first
  | ((with_reducible refine a0l 3 ?_);(refine b0l (o:=⟨some 3,_,_,_,_,_⟩) (cells:=(uv a1z).toArray) (vs:=(uv a1z).zipIdx.map fun p=>(p.2,p.1)) rfl c2b rfl (by kernel_rfl) (by decide) (by decide) (by kernel_rfl) ?_);intro g3 w3 m3
     have q:=hg.out w3 g3 m3.blk
     have K:=hjd m3.kept
     clear m3))
 go_ret
 exact⟨rfl,K.out⟩
end Go.Proofs.YtdbngnlpafcogaaGreat
namespace Go.Mem
open Go.RowKit Go.Txt
section
variable {P:Program} {w:World} {a:Act} {ops:Array Oper} {rest:List Oper} {o:Oper} {Q:Exit→Act→World→Prop} {t e:TypeId} {bytes:Nat} {z:Value}
theorem c3o(hgd:Region.wanted o (yielded ops a.tmps)=true)(T:SliceT P t e 1 bytes z){x0 x1 x2:Operand}(ho:o.op= .buildSlice t 3 #[(0,x0),(1,x1),(2,x2)]){v0 v1 v2:Value}(h0:a.eval x0=v0)(h1:a.eval x1=v1)(h2:a.eval x2=v2)
 (c0:v0.cells= #[v0]) (c1:v1.cells= #[v1]) (c2:v2.cells= #[v2])
 (h:∀g w',Made w w' g e #[v0,v1,v2]→wpList P ops Q rest (a.put o.dst (.slice (some ⟨g,0,none⟩) 3 3)) w'):wpList P ops Q (o :: rest) a w:=by
 obtain⟨i,hi,hz,hs,hb⟩:=info_parts T.2
 have e2:(#[(0,x0),(1,x1),(2,x2)].map fun(p:Nat × Operand)=>(p.1,a.eval p.2)).toList= [(0,v0),(1,v1),(2,v2)]:=by simp [h0,h1,h2]
 have hf:Instr.fill (fun i=>some (i * 1,1)) ((Array.range (3 * 1)).map (z.cells[· % z.cells.size]!)) [(0,v0),(1,v1),(2,v2)]=some #[v0,v1,v2]:=by
  have hr:∀f:Nat→Value,(Array.range (3 * 1)).map f= #[f 0,f 1,f 2]:=fun f=>Array.toList_inj.1 (by rw [Array.toList_map,Array.toList_range];rfl)
  rw [hr]
  simp [Instr.fill,c0,c1,c2]
 refine a1m hgd fun _ hK=>wp_buildSlice t e 3 _ ho #[v0,v1,v2] i z T.1 hi hz (by rw [hs];omega) (by rw [hs];omega) (by rw [hs];exact(congrArg (Instr.fill _ _) e2).trans hf) (hK _ _ (h _ _ ⟨Blk.new _ _ _,(Kept.refl [] w).alloc _,Nat.le_refl _⟩))
theorem a6p(hgd:Region.wanted o (yielded ops a.tmps)=true)(T:SliceT P t e 1 bytes z){x0 x1:Operand}(ho:o.op= .buildSlice t 2 #[(0,x0),(1,x1)]){v0 v1:Value}(h0:a.eval x0=v0)(h1:a.eval x1=v1)
 (c0:v0.cells= #[v0]) (c1:v1.cells= #[v1])
 (h:∀g w',Made w w' g e #[v0,v1]→wpList P ops Q rest (a.put o.dst (.slice (some ⟨g,0,none⟩) 2 2)) w'):wpList P ops Q (o :: rest) a w:=by
 obtain⟨i,hi,hz,hs,hb⟩:=info_parts T.2
 have e2:(#[(0,x0),(1,x1)].map fun(p:Nat × Operand)=>(p.1,a.eval p.2)).toList= [(0,v0),(1,v1)]:=by simp [h0,h1]
 have hf:Instr.fill (fun i=>some (i * 1,1)) ((Array.range (2 * 1)).map (z.cells[· % z.cells.size]!)) [(0,v0),(1,v1)]=some #[v0,v1]:=by
  have hr:∀f:Nat→Value,(Array.range (2 * 1)).map f= #[f 0,f 1]:=fun f=>Array.toList_inj.1 (by rw [Array.toList_map,Array.toList_range];rfl)
  rw [hr]
  simp [Instr.fill,c0,c1]
 refine a1m hgd fun _ hK=>wp_buildSlice t e 2 _ ho #[v0,v1] i z T.1 hi hz (by rw [hs];omega) (by rw [hs];omega) (by rw [hs];exact(congrArg (Instr.fill _ _) e2).trans hf) (hK _ _ (h _ _ ⟨Blk.new _ _ _,(Kept.refl [] w).alloc _,Nat.le_refl _⟩))
end
end Go.Mem
namespace Go.Mem
open Go.RowKit Go.Txt
section
variable {P:Program} {w:World} {a:Act} {ops:Array Oper} {rest:List Oper} {o:Oper} {Q:Exit→Act→World→Prop} {t e:TypeId} {bytes:Nat} {z:Value}
theorem c2z(hgd:Region.wanted o (yielded ops a.tmps)=true)(T:SliceT P t e 1 bytes z){x0 x1 x2 x3 x4 x5 x6 x7:Operand}(ho:o.op= .buildSlice t 8 #[(0,x0),(1,x1),(2,x2),(3,x3),(4,x4),(5,x5),(6,x6),(7,x7)]){v0 v1 v2 v3 v4 v5 v6 v7:Value}(h0:a.eval x0=v0)(h1:a.eval x1=v1)(h2:a.eval x2=v2)(h3:a.eval x3=v3)(h4:a.eval x4=v4)(h5:a.eval x5=v5)(h6:a.eval x6=v6)(h7:a.eval x7=v7)
 (c0:v0.cells= #[v0]) (c1:v1.cells= #[v1]) (c2:v2.cells= #[v2]) (c3:v3.cells= #[v3]) (c4:v4.cells= #[v4]) (c5:v5.cells= #[v5]) (c6:v6.cells= #[v6]) (c7:v7.cells= #[v7])
 (h:∀g w',Made w w' g e #[v0,v1,v2,v3,v4,v5,v6,v7]→wpList P ops Q rest (a.put o.dst (.slice (some ⟨g,0,none⟩) 8 8)) w'):wpList P ops Q (o :: rest) a w:=by
 obtain⟨i,hi,hz,hs,hb⟩:=info_parts T.2
 have e2:(#[(0,x0),(1,x1),(2,x2),(3,x3),(4,x4),(5,x5),(6,x6),(7,x7)].map fun(p:Nat × Operand)=>(p.1,a.eval p.2)).toList= [(0,v0),(1,v1),(2,v2),(3,v3),(4,v4),(5,v5),(6,v6),(7,v7)]:=by simp [h0,h1,h2,h3,h4,h5,h6,h7]
 have hf:Instr.fill (fun i=>some (i * 1,1)) ((Array.range (8 * 1)).map (z.cells[· % z.cells.size]!)) [(0,v0),(1,v1),(2,v2),(3,v3),(4,v4),(5,v5),(6,v6),(7,v7)]=some #[v0,v1,v2,v3,v4,v5,v6,v7]:=by
  have hr:∀f:Nat→Value,(Array.range (8 * 1)).map f= #[f 0,f 1,f 2,f 3,f 4,f 5,f 6,f 7]:=fun f=>Array.toList_inj.1 (by rw [Array.toList_map,Array.toList_range];rfl)
  rw [hr]
  simp [Instr.fill,c0,c1,c2,c3,c4,c5,c6,c7]
 refine a1m hgd fun _ hK=>wp_buildSlice t e 8 _ ho #[v0,v1,v2,v3,v4,v5,v6,v7] i z T.1 hi hz (by rw [hs];omega) (by rw [hs];omega) (by rw [hs];exact(congrArg (Instr.fill _ _) e2).trans hf) (hK _ _ (h _ _ ⟨Blk.new _ _ _,(Kept.refl [] w).alloc _,Nat.le_refl _⟩))
end
end Go.Mem
namespace Go.Proofs.YtdbngnlpafcogaaGreat
open Go.RowKit Go.Mem Go.Txt
abbrev N64(n:Nat):Value:=.int .u64 (n:Int)
def nL:List Nat:=[2,13,22,6,11,25,7,18,3,17,19,10]
theorem d4a{α:Type}(v:α→Value)(z:α)(N:Nat):List.replicate N (v z)=((fam N (fun _=>z)).map v).toArray.toList:=by
 apply List.ext_getElem (by simp [fam])
 intro i h1 h2
 simp [fam]
theorem c7v(N:Nat)(h:N≤2000):∃Z:Array Value,Z=((fam N (fun _=>0)).map N64).toArray∧∀W:World,(Instr.makeSlice 158 (.int .i64 N) (.int .i64 N)).run Tryz.prog W= .ok (.slice (some ⟨W.heap.size,0,none⟩) N N) (W.alloc (.cells Z 67)):=by
 refine⟨_,?_,fun W=>run_mk c2b N (by omega) (by omega) W⟩
 apply Array.toList_inj.1
 rw [show(Value.int IntKind.u64 0).cells= #[N64 0]from rfl,b0x]
 exact d4a N64 0 N
theorem d6t(N:Nat)(h:N≤2000):∃Z:Array Value,Z=((fam N (fun _=>(0:UInt8))).map a1h).toArray∧∀W:World,(Instr.makeSlice 23 (.int .i64 N) (.int .i64 N)).run Tryz.prog W= .ok (.slice (some ⟨W.heap.size,0,none⟩) N N) (W.alloc (.cells Z 5)):=by
 refine⟨_,?_,fun W=>run_mk a1l N (by omega) (by omega) W⟩
 apply Array.toList_inj.1
 rw [show(Value.int IntKind.u8 0).cells= #[a1h 0]from rfl,b0x]
 exact d4a a1h 0 N
def wp(p:Nat→UInt8)(t:Nat):Nat→Nat
 | 0=>0
 | k + 1=>wp p t k * 256 + (p (4 * t + k)).toNat
theorem d2z{a b i:Nat}(h:b < 2 ^ i):a * 2 ^ i ||| b=a * 2 ^ i + b:=by
 rw [Nat.mul_comm]
 exact(Nat.two_pow_add_eq_or_of_lt h a).symm
theorem e3i(p:Nat→UInt8)(t:Nat):wp p t 4=(d7q p t).toNat:=by
 have h0:=UInt8.toNat_lt (p (4 * t))
 have h1:=UInt8.toNat_lt (p (4 * t + 1))
 have h2:=UInt8.toNat_lt (p (4 * t + 2))
 have h3:=UInt8.toNat_lt (p (4 * t + 3))
 unfold d7q
 simp only [wp,Nat.add_zero,Nat.zero_mul,Nat.zero_add]
 generalize (p (4 * t)).toNat=a at *
 generalize (p (4 * t + 1)).toNat=b at *
 generalize (p (4 * t + 2)).toNat=c at *
 generalize (p (4 * t + 3)).toNat=d at *
 simp only [BitVec.toNat_or,BitVec.toNat_shiftLeft,BitVec.toNat_ofNat,Nat.shiftLeft_eq]
 rw [Nat.mod_eq_of_lt (show a < 2 ^ 32 by omega),Nat.mod_eq_of_lt (show b < 2 ^ 32 by omega),Nat.mod_eq_of_lt (show c < 2 ^ 32 by omega),Nat.mod_eq_of_lt (show d < 2 ^ 32 by omega)]
 rw [Nat.mod_eq_of_lt (show a * 2 ^ 24 < 2 ^ 32 by omega),Nat.mod_eq_of_lt (show b * 2 ^ 16 < 2 ^ 32 by omega),Nat.mod_eq_of_lt (show c * 2 ^ 8 < 2 ^ 32 by omega)]
 rw [show a * 2 ^ 24 ||| b * 2 ^ 16=(a * 2 ^ 8 + b) * 2 ^ 16 from by rw [d2z (a:=a) (i:=24) (by omega)];omega]
 rw [show(a * 2 ^ 8 + b) * 2 ^ 16 ||| c * 2 ^ 8=((a * 2 ^ 8 + b) * 2 ^ 8 + c) * 2 ^ 8 from by rw [d2z (i:=16) (by omega)];omega]
 rw [d2z (i:=8) (by omega)]
theorem wp_lt(p:Nat→UInt8)(t:Nat):∀k,wp p t k < 256 ^ k
 | 0=>by simp [wp]
 | k + 1=>by
   have:=wp_lt p t k
   have h:=UInt8.toNat_lt (p (4 * t + k))
   simp only [wp,Nat.pow_succ]
   omega
def rdX(p:Nat→UInt8)(t k i:Nat):Nat:=if i < t then(d7q p i).toNat else if i=t then wp p t k else 0
theorem d8e(p:Nat→UInt8)(t:Nat):rdX p t 4=rdX p (t + 1) 0:=by
 funext i
 unfold rdX
 by_cases h1:i < t
 ·rw [if_pos h1,if_pos (by omega)]
 ·rw [if_neg h1]
  by_cases h2:i=t
  ·subst h2;rw [if_pos rfl,if_pos (by omega),e3i]
  ·rw [if_neg h2,if_neg (by omega)]
   split <;> rfl
theorem e4g(p:Nat→UInt8)(t k:Nat):(fun j=>if j=t then wp p t (k + 1)else rdX p t k j)=rdX p t (k + 1):=by
 funext i
 unfold rdX
 by_cases h2:i=t
 ·subst h2;rw [if_pos rfl,if_neg (Nat.lt_irrefl _),if_pos rfl]
 ·rw [if_neg h2,if_neg h2,if_neg h2]
theorem rdX_at(p:Nat→UInt8)(t k:Nat):rdX p t k t=wp p t k:=by unfold rdX;rw [if_neg (Nat.lt_irrefl _),if_pos rfl]
theorem e5i(p:Nat→UInt8):rdX p 16 0=mix (fun _=>0) (fun i=>(sch p i).toNat) 16:=by
 funext i
 unfold rdX mix
 by_cases h1:i < 16
 ·rw [if_pos h1,if_pos h1]
  show(d7q p i).toNat=(sch p i).toNat
  rw [c1j p h1]
 ·rw [if_neg h1,if_neg h1]
  split <;> rfl
theorem unot(x:BitVec 32):∃n:Nat,bits .xor .u64 IntKind.u64.max (x.toNat:Int)=(n:Int)∧n % 4294967296=(~~~x).toNat:=by
 have hx:=x.isLt
 refine⟨18446744073709551615 - x.toNat,?_,?_⟩
 ·have e:BitVec.ofInt 64 IntKind.u64.max=BitVec.allOnes 64:=by decide
  show IntKind.u64.wrap (((BitVec.ofInt 64 IntKind.u64.max) ^^^ (BitVec.ofInt 64 (x.toNat:Int))).toNat:Nat)=_
  rw [e,ofInt64 _ (by omega),BitVec.allOnes_xor,a7z,BitVec.toNat_not,BitVec.toNat_ofNat]
  omega
 ·rw [BitVec.toNat_not]
  omega
def VR(u:World)(g o:Nat)(v:Nat→BitVec 32):Prop:=∀j,j < 8→u.cell? ⟨g,o + j,none⟩=some (U32 (v j))
def VC(u:World)(g o a0 a1 a2 a3 a4 a5 a6 a7:Nat):Prop:=
 u.cell? ⟨g,o,none⟩=some (N64 a0)∧u.cell? ⟨g,o + 1,none⟩=some (N64 a1)∧u.cell? ⟨g,o + 2,none⟩=some (N64 a2)∧u.cell? ⟨g,o + 3,none⟩=some (N64 a3)∧u.cell? ⟨g,o + 4,none⟩=some (N64 a4)∧u.cell? ⟨g,o + 5,none⟩=some (N64 a5)∧u.cell? ⟨g,o + 6,none⟩=some (N64 a6)∧u.cell? ⟨g,o + 7,none⟩=some (N64 a7)
theorem VC.of{u:World}{g o:Nat}{v:Nat→BitVec 32}(h:VR u g o v):VC u g o (v 0).toNat (v 1).toNat (v 2).toNat (v 3).toNat (v 4).toNat (v 5).toNat (v 6).toNat (v 7).toNat:=
 ⟨h 0 (by decide),h 1 (by decide),h 2 (by decide),h 3 (by decide),h 4 (by decide),h 5 (by decide),h 6 (by decide),h 7 (by decide)⟩
theorem VC.a0o{u u':World}{g o a0 a1 a2 a3 a4 a5 a6 a7:Nat}(h:VC u g o a0 a1 a2 a3 a4 a5 a6 a7)(k:Kept [] u u'):VC u' g o a0 a1 a2 a3 a4 a5 a6 a7:=by
 obtain⟨h0,h1,h2,h3,h4,h5,h6,h7⟩:=h
 exact⟨k.cell h0 (by simp),k.cell h1 (by simp),k.cell h2 (by simp),k.cell h3 (by simp),k.cell h4 (by simp),k.cell h5 (by simp),k.cell h6 (by simp),k.cell h7 (by simp)⟩
theorem VR.a0o{u u':World}{g o:Nat}{v:Nat→BitVec 32}(h:VR u g o v)(k:Kept [] u u'):VR u' g o v:=fun j hj=>k.cell (h j hj) (by simp)
theorem VR.keptS{u u':World}{S:List Nat}{g o:Nat}{v:Nat→BitVec 32}(h:VR u g o v)(k:Kept S u u')(hg:g∉S):VR u' g o v:=fun j hj=>k.cell (h j hj) hg
theorem b3t{α:Type}(n:Nat)(f:Nat→α):fam (n + 1) f=fam n f ++ [f n]:=by unfold fam;rw [List.range_succ,List.map_append];rfl
theorem VC.vr{u:World}{g:Nat}{v:Nat→BitVec 32}{cs:Array Value}{t:TypeId}(hb:Blk u g t cs)(he:(fam 8 fun j=>(v j).toNat).map N64=cs.toList):VR u g 0 v:=by
 intro j hj
 rw [Nat.zero_add,hb.cell,←Array.getElem?_toList,←he]
 simp [fam,hj]
theorem ch_val(e f g:BitVec 32):bits .or .u64 (bits .and .u64 (e.toNat:Int) (f.toNat:Int)) (bits .and .u64 ((~~~e).toNat:Int) (g.toNat:Int))=((chB e f g).toNat:Int):=by rw [uand,uand,uor,ch_or]
theorem mj_val(a b c:BitVec 32):bits .or .u64 (bits .or .u64 (bits .and .u64 (a.toNat:Int) (b.toNat:Int)) (bits .and .u64 (a.toNat:Int) (c.toNat:Int))) (bits .and .u64 (b.toNat:Int) (c.toNat:Int))=((mjB a b c).toNat:Int):=by rw [uand,uand,uand,uor,uor,mj_or]
theorem d9w(k m:BitVec 32)(v:Nat→BitVec 32):∃z0 z4:Nat,z0=((v 7).toNat + (us1 (v 4)).toNat + (chB (v 4) (v 5) (v 6)).toNat + k.toNat + m.toNat + ((us0 (v 0)).toNat + (mjB (v 0) (v 1) (v 2)).toNat)) % 4294967296∧
 z4=((v 3).toNat + ((v 7).toNat + (us1 (v 4)).toNat + (chB (v 4) (v 5) (v 6)).toNat + k.toNat + m.toNat)) % 4294967296∧
 (fam 8 fun j=>(rnd k m v j).toNat).map N64= #[N64 z0,N64 (v 0).toNat,N64 (v 1).toNat,N64 (v 2).toNat,N64 z4,N64 (v 4).toNat,N64 (v 5).toNat,N64 (v 6).toNat].toList:=by
 refine⟨(rnd k m v 0).toNat,(rnd k m v 4).toNat,?_,?_,rfl⟩
 ·show(v 7 + us1 (v 4) + chB (v 4) (v 5) (v 6) + k + m + (us0 (v 0) + mjB (v 0) (v 1) (v 2))).toNat=_
  simp only [BitVec.toNat_add]
  omega
 ·show(v 3 + (v 7 + us1 (v 4) + chB (v 4) (v 5) (v 6) + k + m)).toNat=_
  simp only [BitVec.toNat_add]
  omega
theorem b8h:∀k,k < 80→a1z.getD k 0 < 18446744073709551616:=by decide
end Go.Proofs.YtdbngnlpafcogaaGreat
namespace Go.Txt
section
variable {P:Program} {F:List Nat} {S:World→Prop} {G:Act→World→Prop} {Q:Exit→Act→World→Prop}
theorem d9e{ops ops':Array Oper}{i:Nat}{o:Oper}(h1:ops[i]?=some o)(h2:ops'[i]?=some o)(hg:o.guard=none){K:Act→World→Prop}{a:Act}{w:World}(h:wpOp P ops T0 i K a w):wpOp P ops' Q i K a w:=by
 have hw:∀y,Region.wanted o y=true:=fun y=>by simp [Region.wanted,hg]
 unfold wpOp at h ⊢
 simp only [h1,hw,if_true]at h
 simp only [h2,hw,if_true]
 rcases h with h2 | ⟨_,hl⟩
 case inr=>exact(a2i hT0 hl).elim
 refine .inl ?_
 unfold Oper.wp at h2 ⊢
 generalize (execOp a.eval o).run P w=r at *
 cases r with
 | ok n w'=>
   cases n <;> simp only [Oper.upon]at h2 ⊢ <;> first
    | exact h2
    | exact Calls.mono h2 fun e w'' he=>by
       cases e with
       | returned u=>exact he
       | panicked c=>exact he.elim
       | outgrown=>exact(a2i hT0 he).elim
 | halt x w'=>
   cases x <;> simp only [Oper.upon]at h2 ⊢
   case panic u=>exact h2.elim
theorem a8y{m:Array Bool}{j:Nat}(h:j < m.size)(d:Bool):(m.push false).getD j d=m.getD j d:=by
 simp [Array.getD,h,Nat.lt_succ_of_lt h,Array.getElem_push_lt h]
theorem b6c{m:Array Bool}{j:Nat}(h:j=m.size)(d:Bool):(m.push false).getD j d=false:=by
 subst h;simp [Array.getD]
theorem d8u{m:Array Bool}{j:Nat}(h:j < m.size):m.getD j true=m.getD j false:=by simp [Array.getD,h]
theorem c8u{ops:Array Oper}(hdep:d3g ops=true){listed:Array Bool}(hs:listed.size=ops.size)(hr:Region.ready .any ops listed= []):∀j,j < ops.size→listed.getD j true=true:=by
 intro j
 induction j using Nat.strongRecOn with
 | _ j ih=>
   intro hj
   cases hl:listed.getD j true with
   | true=>rfl
   | false=>
     exfalso
     have hjs:j < listed.size:=by omega
     have:j∈Region.ready .any ops listed:=by
      rw [mem_ready]
      refine⟨hl,ops[j],by simp [hj],fun e he hb=>?_⟩
      have hlt:=a4m hdep j ops[j] (by simp [hj]) e he hb
      have:=ih e.on hlt (by omega)
      have hes:e.on < listed.size:=by omega
      simpa [Array.getD,hes]using this
     rw [hr]at this
     cases this
theorem d6c{l:List Oper}{ol:Oper}(hdep:d3g (l ++ [ol]).toArray=true)(hgd:∀o∈l ++ [ol],o.guard=none)(hlate:∀i,i < l.length→b9s (l ++ [ol]).toArray i ol)
 (hG:∀a w,G a w→ol.wp P a w (fun a w=>Q .normal a w) Q) :
 ∀(fuel:Nat) (m:Array Bool) (a:Act) (w:World),m.size=l.length→a5a (l ++ [ol]).toArray (m.push false)→anyS P l.toArray S G fuel m a w→wpAny P .any (l ++ [ol]).toArray Q (fuel + 1) (m.push false) a w:=by
 have hol:(l ++ [ol]).toArray[l.length]?=some ol:=by simp
 have hge:∀(i:Nat),i < l.length→(l ++ [ol]).toArray[i]?=l.toArray[i]?:=fun i hi=>by simp [List.getElem?_append_left hi]
 have hlast:∀(fuel:Nat) (m:Array Bool) (a:Act) (w:World),m.size=l.length→(∀j,j < l.length→(m.push false).getD j true=true)→G a w→wpOp P (l ++ [ol]).toArray Q l.length (wpAny P .any (l ++ [ol]).toArray Q fuel ((m.push false).setIfInBounds l.length true)) a w:=by
  intro fuel m a w hm hall hg
  have hw:∀y,Region.wanted ol y=true:=fun y=>by simp [Region.wanted,hgd ol (by simp)]
  have hr:Region.ready .any (l ++ [ol]).toArray ((m.push false).setIfInBounds l.length true)= []:=by
   rw [List.eq_nil_iff_forall_not_mem]
   intro j hj
   obtain⟨h1,o,ho,_⟩:=mem_ready.1 hj
   have hjl:j < l.length + 1:=by have:=(Array.getElem?_eq_some_iff.1 ho).1;simpa using this
   by_cases hjn:j=l.length
   ·subst hjn
    simp [Array.getD,hm]at h1
   ·have h2:=hall j (by omega)
    rw [getD_set_ne true (Ne.symm hjn)]at h1
    rw [h1]at h2
    cases h2
  unfold wpOp
  simp only [hol,hw,if_true]
  refine .inl (Oper.wp_mono (fun a' w' h'=>?_) (hG a w hg))
  cases fuel with
  | zero=>exact⟨hr,h'⟩
  | succ fuel=>exact⟨fun _=>h',fun i hi=>by rw [hr]at hi;cases hi⟩
 have hnr:∀(m:Array Bool),m.size=l.length→(∀j,j < l.length→(m.push false).getD j true=true)→Region.ready .any l.toArray m= []:=by
  intro m hm hall
  rw [List.eq_nil_iff_forall_not_mem]
  intro j hj
  obtain⟨h1,o,ho,_⟩:=mem_ready.1 hj
  have hjl:j < l.length:=by have:=(Array.getElem?_eq_some_iff.1 ho).1;simpa using this
  have h2:=hall j hjl
  have hjm:j < m.size:=by omega
  rw [a8y hjm,h1]at h2
  cases h2
 have hsome:∀(m:Array Bool),m.size=l.length→Region.ready .any (l ++ [ol]).toArray (m.push false)≠[]:=by
  intro m hm hr
  have:=c8u hdep (by simp [hm]) hr l.length (by simp)
  rw [b6c hm.symm]at this
  cases this
 have hready:∀(m:Array Bool) i,m.size=l.length→i < l.length→i∈Region.ready .any (l ++ [ol]).toArray (m.push false)→i∈Region.ready .any l.toArray m:=by
  intro m i hm hi h
  obtain⟨h1,o,ho,h2⟩:=mem_ready.1 h
  rw [mem_ready]
  have him:i < m.size:=by omega
  refine⟨?_,o,by rw [←hge i hi];exact ho,fun e he hb=>?_⟩
  ·rwa [a8y him]at h1
  ·have h3:=h2 e he hb
   have h4:=a4m hdep i o ho e he hb
   have hem:e.on < m.size:=by omega
   rwa [a8y hem]at h3
 have hlt:∀(m:Array Bool),m.size=l.length→a5a (l ++ [ol]).toArray (m.push false)→l.length∈Region.ready .any (l ++ [ol]).toArray (m.push false)→∀j,j < l.length→(m.push false).getD j true=true:=by
  intro m hm hc hi j hj
  cases hl:(m.push false).getD j true with
  | true=>rfl
  | false=>
    obtain⟨_,o,ho,h2⟩:=mem_ready.1 hi
    rw [hol]at ho
    cases ho
    obtain⟨e,he,hb,h3⟩:=hlate j hj _ hc hl
    have h4:=h2 e he hb
    have h5:=a4m hdep l.length ol hol e he hb
    have hem:e.on < (m.push false).size:=by simp;omega
    rw [d8u hem,h4]at h3
    cases h3
 intro fuel
 induction fuel with
 | zero=>
   intro m a w hm hc h
   refine⟨fun hr=>(hsome m hm hr).elim,fun i hi=>?_⟩
   have hil:i < l.length + 1:=by
    obtain⟨_,o,ho,_⟩:=mem_ready.1 hi
    have:=(Array.getElem?_eq_some_iff.1 ho).1;simpa using this
   by_cases hin:i=l.length
   ·subst hin
    exact hlast 0 m a w hm (hlt m hm hc hi) h.2
   ·have:=hready m i hm (by omega) hi
    rw [h.1]at this
    cases this
 | succ fuel ih=>
   intro m a w hm hc h
   refine⟨fun hr=>(hsome m hm hr).elim,fun i hi=>?_⟩
   have hil:i < l.length + 1:=by
    obtain⟨_,o,ho,_⟩:=mem_ready.1 hi
    have:=(Array.getElem?_eq_some_iff.1 ho).1;simpa using this
   by_cases hin:i=l.length
   ·subst hin
    exact hlast (fuel + 1) m a w hm (hlt m hm hc hi) (h.1 (hnr m hm (hlt m hm hc hi)))
   ·have hi2:i < l.length:=by omega
    have hri:=hready m i hm hi2 hi
    have hop:=h.2 i hri
    have hoi:l.toArray[i]?=some l[i]:=by simp [hi2]
    have e:(m.push false).setIfInBounds i true=(m.setIfInBounds i true).push false:=by
     have him:i < m.size:=by omega
     apply Array.ext_getElem?
     intro j
     simp only [Array.getElem?_setIfInBounds,Array.getElem?_push,Array.size_push,Array.size_setIfInBounds]
     by_cases h1:i=j
     ·subst h1
      have h2:i < m.size + 1:=by omega
      have h3:¬i=m.size:=by omega
      simp [him,h2,h3]
     ·simp [h1]
    have h3:wpOp P l.toArray T0 i (wpAny P .any (l ++ [ol]).toArray Q (fuel + 1) ((m.push false).setIfInBounds i true)) a w:=wpOp_mono (fun a' w' hh=>by
     rw [e]
     refine ih _ a' w' (by simpa using hm) ?_ hh.2
     rw [←e]
     exact hc.set hi) hop
    exact d9e hoi ((hge i hi2).trans hoi) (hgd _ (by simp)) h3
def lastB(ops:Array Oper):Bool:=d3g ops && (ops.all (fun o=>o.guard.isNone) && d5v 0 ops.toList [] (fun acc=>(List.range (ops.size - 1)).all fun i=>(acc.getD 0 0).testBit i))
theorem a6m(F:List Nat)(S:World→Prop){id:Nat}{a:Act}{w:World}{ops:Array Oper}(l:List Oper)(ol:Oper)(hops:ops=(l ++ [ol]).toArray)(ss:List (List Oper))(hm:P.follows .mixedOrders=true)(hB:c7f P l.toArray F=true)(hL:lastB (l ++ [ol]).toArray=true)
 (hss:parts P l=ss) (hS:S w.drew) (h:a7e P l.toArray S (a6g P l.toArray F S (fun _ a w=>ol.wp P a w (fun a w=>Q .normal a w) Q)) ss a w.drew):(Code.region id ops true).wp P Q a w:=by
 subst hops
 simp only [lastB,Bool.and_eq_true]at hL
 obtain⟨hdep2,hgd,hrows2⟩:=hL
 simp only [c7f,Bool.and_eq_true]at hB
 obtain⟨⟨⟨hns,hset⟩,hdep⟩,hrows⟩:=hB
 obtain⟨acc,hinv,hpr⟩:=a9m hdep l 0 [] (by simp) ⟨rfl,fun e he=>by omega⟩ (by simpa using hrows)
 have hpair:∀i j oi oj,i < j→l.toArray[i]?=some oi→l.toArray[j]?=some oj→¬b9s l.toArray i oj→b5s P l.toArray F i j oi oj=true:=
  fun i j oi oj hij hi hj hn=>b4q (by simpa using hinv) hpr hij hi hj hn
 obtain⟨acc2,hinv2,hpr2⟩:=a9m hdep2 (l ++ [ol]) 0 [] (by simp) ⟨rfl,fun e he=>by omega⟩ (by simpa using hrows2)
 have hG:∀a w,a6g P l.toArray F S (fun _ a w=>ol.wp P a w (fun a w=>Q .normal a w) Q) a w→Good P l.toArray F S a:=fun _ _ h=>h.1
 have hsel:=Region.noSelect_spec hns
 have h1:b8v P l.toArray S (a6g P l.toArray F S (fun _ a w=>ol.wp P a w (fun a w=>Q .normal a w) Q)) l.length 0 a w.drew:=by
  subst hss
  have hpn:=b3w (P:=P) l
  have hpf:=a7o (P:=P) l
  have hpo:=b8o (P:=P) l
  cases hp:parts P l with
  | nil=>exact absurd hp hpn
  | cons s ss=>
    rw [hp]at h hpf hpo
    have:=b9k hG hset (a4m hdep) hsel ss s 0 a w.drew hS hpo (fun j=>by
     have:s ++ ss.flatten=l:=by simpa using hpf
     rw [this];simp) h
    have e:s ++ ss.flatten=l:=by simpa using hpf
    rw [e]at this
    exact this
 have h2:=b2k hG hset hdep hpair hsel l.length 0 (Array.replicate l.toArray.size false) a w.drew hS (by simp) (by simp) (fun j hj=>by simp at hj;simp [hj]) (a5a.start _) h1
 refine wp_region_any hm ?_
 have e:Array.replicate (l ++ [ol]).toArray.size false=(Array.replicate l.toArray.size false).push false:=by
  apply Array.ext'
  simp [List.replicate_succ']
 have h3:=d6c (Q:=Q) hdep2 (fun o ho=>by
  have:=Array.all_eq_true_iff_forall_mem.1 hgd o (by simpa using ho)
  simpa using this) (fun i hi=>by
  have ht:=List.all_eq_true.1 hpr2 i (by simpa using hi)
  have:=hinv2.2 l.length (by simp) i ol (by simp)
  simp only [Nat.zero_add,List.length_append,List.length_cons,List.length_nil,Nat.add_sub_cancel,Nat.sub_self]at this
  exact this ht) (fun a w hh=>hh.2) l.length (Array.replicate l.toArray.size false) a w.drew (by simp) (by rw [←e];exact a5a.start _) h2
 rw [e]
 simpa using h3
end
end Go.Txt
