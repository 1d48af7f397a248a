/-
  The sign's laws: what must be answered ahead of everything else.
-/
import Derived.Test.YtdbngnlpafcogaaGreatZmKr6
set_option maxRecDepth 100000
namespace Go.Proofs.YtdbngnlpafcogaaGreat
open Go.RowKit Go.Mem Go.Txt
theorem xor1:∀n:_root_.Fin 256,bits .xor .u8 (n.val:Int) 1=((n.val ^^^ 1:Nat):Int):=by decide +kernel
theorem xor1_v(a:UInt8):bits .xor .u8 (a.toNat:Int) 1=((a ^^^ 1).toNat:Int):=by
 rw [xor1 ⟨a.toNat,UInt8.toNat_lt a⟩,UInt8.toNat_xor]
 rfl
theorem e2y(a:UInt8):(a ^^^ 1).toNat≠a.toNat:=by
 have:∀n:_root_.Fin 256,n.val ^^^ 1≠n.val:=by decide +kernel
 rw [UInt8.toNat_xor]
 exact this ⟨a.toNat,UInt8.toNat_lt a⟩
theorem c4w(bs m:List UInt8):a9r bs m=RS bs m ++ le (sS bs m) 32:=rfl
theorem d8n{l r:List UInt8}{i:Nat}(h:l.length=32):(l ++ r).getD (32 + i) 0=r.getD i 0:=by
 rw [List.getD_eq_getElem?_getD,List.getElem?_append_right (by omega),h,show 32 + i - 32=i from by omega,List.getD_eq_getElem?_getD]
theorem e3k{l r:List UInt8}{i:Nat}{b:UInt8}(h:l.length=32):(l ++ r).set (32 + i) b=l ++ r.set i b:=by
 rw [List.set_append,if_neg (by omega),h,show 32 + i - 32=i from by omega]
theorem c1x(bs m:List UInt8)(i:Nat)(hi:i < 32)(b:UInt8)(hb:b.toNat≠((a9r bs m).getD (32 + i) 0).toNat):okV (b3b (a7q bs)) ((a9r bs m).set (32 + i) b) m=false:=by
 rw [c4w,d8n (c0y bs m)]at hb
 rw [c4w,e3k (c0y bs m)]
 refine d5h fun e=>hb ?_
 have:=c8q (le (sS bs m) 32) i b (by rw [a0o];exact hi)
 rw [e,sS_T]at this
 have hp:0 < 256 ^ i:=Nat.pow_pos (by decide)
 exact(Nat.eq_of_mul_eq_mul_right hp (Nat.add_left_cancel this)).symm
theorem a6k{w:World}{g i:Nat}{bt:TypeId}{s:List UInt8}{c:UInt8}(hb:Blk w g bt (bv s).toArray)(h:i < s.length)(hc:s.getD i 0=c):w.cell? ⟨g,i,none⟩=some (.int .u8 (c.toNat:Int)):=by
 subst hc
 rw [hb.cell]
 simp [bv,a1q,List.getD_eq_getElem?_getD,h]
theorem b4e{w:World}{g i:Nat}{bt:TypeId}{s:List UInt8}(hb:Blk w g bt (bv s).toArray)(d:UInt8):Blk (w.setCell ⟨g,i,none⟩ (.int .u8 (d.toNat:Int))) g bt (bv (s.set i d)).toArray:=by
 have:=hb.a6m i (a1q d)
 have e:(bv s).toArray.setIfInBounds i (a1q d)=(bv (s.set i d)).toArray:=by
  apply Array.toList_inj.1
  rw [Array.toList_setIfInBounds]
  unfold bv
  rw [List.map_set]
 rw [e]at this
 exact this
@[go_sem] theorem e5g (w:World) (C:Array Value) (m n c:Nat) (hm:m=w.heap.size):(convert 23 23 (.slice (some ⟨m,0,none⟩) n c)).run Tryz.prog (w.alloc (.cells C 5))= .ok (.slice (some ⟨m,0,none⟩) n c) (w.alloc (.cells C 5 (C.size,C.size + 1))):=
 c8y Tryz.underlying23 Tryz.underlying5 w C m n c hm
theorem b7j{w w2:World}{g g2:Nat}{a:UInt8}{cs cs2:Array Value}{fr:Nat × Nat}(m2:Made (w.alloc (.cells cs 5 fr)) w2 g2 23 cs2)(hg:g=w.heap.size)(hc:cs=(bv [a]).toArray)(hc2:cs2= #[.slice (some ⟨g,0,none⟩) 1 1]):Parts w2 (.slice (some ⟨g2,0,none⟩) 1 1) [(.slice (some ⟨g,0,none⟩) 1 1,[a])]:=by
 subst hg hc hc2
 exact c0w m2.blk ((Rd.d5c rfl rfl (by simp) (by simp)).a1o m2.kept)
abbrev VrC(K S:List UInt8)(ps:List UInt8)(b:Bool):Prop:=∀u pv v,Parts u pv [(v,ps)]→Calls Tryz.prog 13 #[ab K,ab S,pv] u fun e w'=>e= .returned (.bool b)∧Kept [] u w'
theorem d4q{K S p:List UInt8}{b:Bool}(hk:K.length=32)(hs:S.length=64)(hp:p.length≤100000000000)(hb:okV K S p=b):VrC K S p b:=by
 intro u pv v h
 rw [←hb]
 exact b5t K S hk hs pv _ p u h (a4r _ _) (by simp) hp
set_option maxHeartbeats 3200000 in
theorem c7h{l K S T:List UInt8}{c d:UInt8}(hl:l.length=32)(hK:K.length=32)(hS:S.length=64)(hc:S.getD 40 0=c)(hT:S.set 40 d=T)(hd:d=c ^^^ 1)(ul:Value.agg #[.int .u8 1,.int .u8 0,.int .u8 0,.int .u8 0,.int .u8 0,.int .u8 0,.int .u8 0,.int .u8 0,.int .u8 0,.int .u8 0,.int .u8 0,.int .u8 0,.int .u8 0,.int .u8 0,.int .u8 0,.int .u8 0,.int .u8 0,.int .u8 0,.int .u8 0,.int .u8 0,.int .u8 0,.int .u8 0,.int .u8 0,.int .u8 0,.int .u8 0,.int .u8 0,.int .u8 0,.int .u8 0,.int .u8 0,.int .u8 0,.int .u8 0,.int .u8 0]=ab l)
 (cp:∀u,Calls Tryz.prog 9 #[ab l] u fun e w'=>e= .returned (ab K)∧Kept [] u w')
 (cs:∀u pv v,Parts u pv [(v,[97])]→Calls Tryz.prog 10 #[ab l,pv] u fun e w'=>e= .returned (ab S)∧Kept [] u w')
 (c1:VrC K S [97] true) (c2:VrC K S [98] false) (c3:VrC K T [97] false) (w:World) :
 Calls Tryz.prog 7 #[] w fun e w'=>e= .returned (.bool true)∧Kept [] w w':=by
 replace hl:=hjd hl
 replace hK:=hjd hK
 replace hS:=hjd hS
 replace hc:=hjd hc
 have hTl:=hjd (show T.length=64 by rw [←hT,List.length_set,hS.out])
 replace hT:=hjd hT
 replace hd:=hjd hd
 replace cp:=hjd cp
 replace cs:=hjd cs
 replace c1:=hjd c1
 replace c2:=hjd c2
 replace c3:=hjd c3
 have t:=hjd (Pm.none w)
 go_enter Tryz.func7,Tryz.ntmps7
 go_wp2_with (first
  | (go_at_call 9;(with_reducible refine(cp.out _).mono ?_);rintro e v ⟨rfl,kk⟩;replace t:=hjd (t.out.kept kk);clear kk)
  | ((with_reducible refine a0q 1 ?_);(refine a0f (o:=⟨some 1,_,_,_,_,_⟩) rfl rfl a3h ?_);intro g1 w1 m1
     refine a0b (cs:=(bv K).toArray) (o:=⟨none,Op.store 22 (.tmp 1) (.tmp 5),_,_,_,_⟩) a1u.row rfl (.tmp 1) (.tmp 5) rfl rfl rfl m1.blk (by rfl) (by simpa using hK.out) (a2a _) ?_
     intro wb1 b1 k1
     replace t:=hjd (t.out.put m1 b1 k1)
     clear m1 b1 k1)
  | ((with_reducible refine a0q 9 ?_);(refine a2b (o:=⟨some 9,_,_,_,_,_⟩) (v0:=.slice (some ⟨wb1.heap.size,0,none⟩) 1 1) (cells:=#[.slice (some ⟨wb1.heap.size,0,none⟩) 1 1]) rfl a3n rfl rfl (by simp) rfl rfl ?_);intro gb wb mb
     have PP:=hjd (b7j (a:=97) mb rfl rfl rfl)
     replace t:=hjd (t.out.kept (((Kept.refl [] _).alloc _).a0i mb.kept))
     clear mb)
  | (go_at_call 10;(with_reducible refine(cs.out _ _ _ PP.out).mono ?_);rintro e v ⟨rfl,kk⟩;replace t:=hjd (t.out.kept kk);clear kk PP)
  | ((with_reducible refine a0q 2 ?_);(refine a0f (o:=⟨some 2,_,_,_,_,_⟩) rfl rfl b4x ?_);intro g2 w2 m2
     refine a0b (cs:=(bv S).toArray) (o:=⟨none,Op.store 32 (.tmp 2) (.tmp 10),_,_,_,_⟩) Q.b4d rfl (.tmp 2) (.tmp 10) rfl rfl rfl m2.blk (by rfl) (by simpa using hS.out) (a2a _) ?_
     intro wb2 b2 k2
     replace t:=hjd (t.out.put m2 b2 k2)
     clear m2 b2 k2)
  | ((with_reducible refine a0q 11 ?_);refine a0a (cs:=(bv S).toArray) (o:=⟨some 11,_,_,_,_,_⟩) Q.b4d rfl (.tmp 2) rfl rfl (t.out.s (g2,32,(bv S).toArray) (by simp)) (by simpa using hS.out) ?_)
  | ((with_reducible refine a0q 3 ?_);(refine a0f (o:=⟨some 3,_,_,_,_,_⟩) rfl rfl b4x ?_);intro g3 w3 m3
     refine a0b (cs:=(bv S).toArray) (o:=⟨none,Op.store 32 (.tmp 3) (.tmp 11),_,_,_,_⟩) Q.b4d rfl (.tmp 3) (.tmp 11) rfl rfl rfl m3.blk (by rfl) (by simpa using hS.out) (a2a _) ?_
     intro wb3 b3 k3
     have L3:=hjd (Nat.le_trans t.out.k.size m3.le)
     have N3:=hjd (fun p hp=>m3.ne (t.out.s p hp).lt)
     replace t:=hjd (t.out.put m3 b3 k3)
     have b33:=hjd b3
     have N2:=hjd (show∀p∈[(g2,32,(bv S).toArray),(g1,22,(bv K).toArray)],p.1≠g3 from N3.out)
     have q40:=a6k b3 (by rw [hS.out];decide) hc.out
     have f40:=b3.frozen 40
     have x40:=xor1_v c
     clear m3 b3 k3)
  | ((with_reducible refine a0q 16 ?_)
     have ex:((c.toNat ^^^ 1:Nat):Int)=(d.toNat:Int):=by rw [hd.out,UInt8.toNat_xor];rfl
     rw [ex]
     have b4:=b4e (i:=40) b33.out d
     rw [hT.out]at b4
     have k4:=(Kept.refl [g3] wb3).setCell (p:=⟨g3,40,none⟩) (.inl (by simp)) (.int .u8 (d.toNat:Int))
     replace t:=hjd (t.out.again L3.out N2.out b4 k4)
     clear q40 f40 x40 b33 L3 N3 N2 b4 k4 ex
     generalize wb3.setCell _ _=wx at *
     refine a0a (cs:=(bv K).toArray) (o:=⟨some 16,_,_,_,_,_⟩) a1u.row rfl (.tmp 1) rfl rfl (t.out.s (g1,22,(bv K).toArray) (by simp)) (by simpa using hK.out) ?_)
  | ((with_reducible refine a0q 17 ?_);refine a0a (cs:=(bv S).toArray) (o:=⟨some 17,_,_,_,_,_⟩) Q.b4d rfl (.tmp 2) rfl rfl (t.out.s (g2,32,(bv S).toArray) (by simp)) (by simpa using hS.out) ?_)
  | ((with_reducible refine a0q 23 ?_);refine a0a (cs:=(bv K).toArray) (o:=⟨some 23,_,_,_,_,_⟩) a1u.row rfl (.tmp 1) rfl rfl (t.out.s (g1,22,(bv K).toArray) (by simp)) (by simpa using hK.out) ?_)
  | ((with_reducible refine a0q 24 ?_);refine a0a (cs:=(bv S).toArray) (o:=⟨some 24,_,_,_,_,_⟩) Q.b4d rfl (.tmp 2) rfl rfl (t.out.s (g2,32,(bv S).toArray) (by simp)) (by simpa using hS.out) ?_)
  | ((with_reducible refine a0q 32 ?_);refine a0a (cs:=(bv K).toArray) (o:=⟨some 32,_,_,_,_,_⟩) a1u.row rfl (.tmp 1) rfl rfl (t.out.s (g1,22,(bv K).toArray) (by simp)) (by simpa using hK.out) ?_)
  | ((with_reducible refine a0q 33 ?_);refine a0a (cs:=(bv T).toArray) (o:=⟨some 33,_,_,_,_,_⟩) Q.b4d rfl (.tmp 3) rfl rfl (t.out.s (g3,32,(bv T).toArray) (by simp)) (by simpa using hTl.out) ?_)
  | ((with_reducible refine a0q 20 ?_);(refine a2b (o:=⟨some 20,_,_,_,_,_⟩) (v0:=.slice (some ⟨wx.heap.size,0,none⟩) 1 1) (cells:=#[.slice (some ⟨wx.heap.size,0,none⟩) 1 1]) rfl a3n rfl rfl (by simp) rfl rfl ?_);intro gb wb mb
     have PP:=hjd (b7j (a:=97) mb rfl rfl rfl)
     replace t:=hjd (t.out.kept (((Kept.refl [] _).alloc _).a0i mb.kept))
     clear mb)
  | ((with_reducible refine a0q 27 ?_);(refine a2b (o:=⟨some 27,_,_,_,_,_⟩) (v0:=.slice (some ⟨v.heap.size,0,none⟩) 1 1) (cells:=#[.slice (some ⟨v.heap.size,0,none⟩) 1 1]) rfl a3n rfl rfl (by simp) rfl rfl ?_);intro gb wb mb
     have PP:=hjd (b7j (a:=98) mb rfl rfl rfl)
     replace t:=hjd (t.out.kept (((Kept.refl [] _).alloc _).a0i mb.kept))
     clear mb)
  | ((with_reducible refine a0q 36 ?_);(refine a2b (o:=⟨some 36,_,_,_,_,_⟩) (v0:=.slice (some ⟨v.heap.size,0,none⟩) 1 1) (cells:=#[.slice (some ⟨v.heap.size,0,none⟩) 1 1]) rfl a3n rfl rfl (by simp) rfl rfl ?_);intro gb wb mb
     have PP:=hjd (b7j (a:=97) mb rfl rfl rfl)
     replace t:=hjd (t.out.kept (((Kept.refl [] _).alloc _).a0i mb.kept))
     clear mb)
  | (go_at_call 13;(with_reducible refine(c1.out _ _ _ PP.out).mono ?_);rintro e v ⟨rfl,kk⟩;replace t:=hjd (t.out.kept kk);clear kk PP)
  | (go_at_call 13;(with_reducible refine(c2.out _ _ _ PP.out).mono ?_);rintro e v ⟨rfl,kk⟩;replace t:=hjd (t.out.kept kk);clear kk PP)
  | (go_at_call 13;(with_reducible refine(c3.out _ _ _ PP.out).mono ?_);rintro e v ⟨rfl,kk⟩;replace t:=hjd (t.out.kept kk);clear kk PP))
 go_ret
 exact⟨rfl,t.out.k⟩
theorem lit1_v:Value.agg #[.int .u8 1,.int .u8 0,.int .u8 0,.int .u8 0,.int .u8 0,.int .u8 0,.int .u8 0,.int .u8 0,.int .u8 0,.int .u8 0,.int .u8 0,.int .u8 0,.int .u8 0,.int .u8 0,.int .u8 0,.int .u8 0,.int .u8 0,.int .u8 0,.int .u8 0,.int .u8 0,.int .u8 0,.int .u8 0,.int .u8 0,.int .u8 0,.int .u8 0,.int .u8 0,.int .u8 0,.int .u8 0,.int .u8 0,.int .u8 0,.int .u8 0,.int .u8 0]=ab (le 1 32):=by kernel_rfl
theorem d3s(w:World):Calls Tryz.prog 7 #[] w fun e w'=>e= .returned (.bool true)∧Kept [] w w':=by
 have hl:=a0o 1 32
 have hK:=a5i (a7q (le 1 32))
 have hS:=d2z (le 1 32) [97]
 refine c7h (d:=(a9r (le 1 32) [97]).getD 40 0 ^^^ 1) hl hK hS rfl rfl rfl lit1_v (fun u=>b6n _ hl u) ?_ (d4q hK hS (by decide) (c1v _ _)) (d4q hK hS (by decide) (kr_no kr6)) (d4q hK (by rw [List.length_set,hS]) (by decide) (c1x _ _ 8 (by decide) _ ?_)) w
 ·intro u pv v h
  exact c4g _ hl pv _ [97] u h (a4r _ _) (by simp) (by decide)
 ·exact e2y _
end Go.Proofs.YtdbngnlpafcogaaGreat
