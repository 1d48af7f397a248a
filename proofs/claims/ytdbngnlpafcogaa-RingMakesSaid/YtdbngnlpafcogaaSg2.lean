/-
  The sign: a seed's secret.
-/
import Derived.Test.YtdbngnlpafcogaaSg1
import Derived.Test.YtdbngnlpafcogaaFe15
namespace Go.Proofs.Ytdbngnlpafcogaa
open Go.RowKit Go.Mem Go.Txt

theorem and248 : ∀ n : _root_.Fin 256, bits .and .u8 (n.val : Int) 248 = ((n.val - n.val % 8 : Nat) : Int) := by decide +kernel
theorem or64 : ∀ n : _root_.Fin 256, bits .or .u8 (bits .and .u8 (n.val : Int) 127) 64 = ((n.val % 64 + 64 : Nat) : Int) := by decide +kernel
def lowB (a : UInt8) : UInt8 := UInt8.ofNat (a.toNat - a.toNat % 8)
def topB (a : UInt8) : UInt8 := UInt8.ofNat (a.toNat % 64 + 64)
theorem low_val (a : UInt8) : bits .and .u8 (a.toNat : Int) 248 = ((lowB a).toNat : Int) := by
  have h := UInt8.toNat_lt a
  rw [and248 ⟨a.toNat, h⟩]
  unfold lowB
  rw [UInt8.toNat_ofNat_of_lt' (by show a.toNat - a.toNat % 8 < 256; omega)]
theorem top_val (a : UInt8) : bits .or .u8 (bits .and .u8 (a.toNat : Int) 127) 64 = ((topB a).toNat : Int) := by
  have h := UInt8.toNat_lt a
  rw [or64 ⟨a.toNat, h⟩]
  unfold topB
  rw [UInt8.toNat_ofNat_of_lt' (by show a.toNat % 64 + 64 < 256; omega)]
/-- The number's bytes of a digest. -/
def clampB (s : List UInt8) : List UInt8 := ((s.take 32).set 0 (lowB (s.getD 0 0))).set 31 (topB (s.getD 31 0))
theorem clamp_len (s : List UInt8) (h : 32 ≤ s.length) : (clampB s).length = 32 := by simp [clampB, h]
theorem parts1 {w : World} {g : Nat} {t : TypeId} {v : Value} {x : List UInt8} (hb : Blk w g t #[v]) (hr : Rd w 1 v x.length (bv x)) : Parts w (.slice (some ⟨g, 0, none⟩) 1 1) [(v, x)] :=
  ⟨⟨_, _, rfl, rfl, Nat.le_refl _, fun _ => ⟨g, 0, rfl, fun j u hu => by rw [hb.cell, Nat.zero_add]; simpa using hu⟩⟩, fun y hy => by obtain rfl := List.mem_singleton.1 hy; exact hr⟩
theorem arr32_at (g : Nat) (W : World) : (Instr.arrayAt 26 (.slice (some ⟨g, 0, none⟩) 32 64)).run Try.prog W = .ok (.pointer (some ⟨g, 0, none⟩)) W := by kernel_rfl
theorem joined_one (v : Value) (x : List UInt8) : joined [(v, x)] = x := by simp [joined, bytesOf]
theorem drop_rd {w : World} {g : Nat} {bt : TypeId} {s : List UInt8} (hb : Blk w g bt (bv s).toArray) (h : s.length = 64) : Rd w 1 (.slice (some ⟨g, 32, none⟩) 32 32) 32 (bv (s.drop 32)) :=
  ⟨_, _, rfl, by simp [h], Nat.le_refl _, fun _ => ⟨g, 32, rfl, fun j u hu => by
    rw [hb.cell]
    rw [bv, List.map_drop, List.getElem?_drop] at hu
    simpa [bv] using hu⟩⟩
theorem head_rg {w : World} {g : Nat} {bt : TypeId} {s : List UInt8} (hb : Blk w g bt (bv s).toArray) (n : Nat) : w.rangeAt g 0 (bv (s.take n)) := by
  refine Blk.range (bt := bt) (pre := []) (post := bv (s.drop n)) ?_ rfl
  have e : ([] : List Value) ++ (bv (s.take n) ++ bv (s.drop n)) = bv s := by
    rw [List.nil_append, bv, bv, ← List.map_append, List.take_append_drop]
  rw [e]; exact hb
theorem tk_at {w : World} {g n : Nat} {bt : TypeId} {s : List UInt8} (hb : Blk w g bt (bv (s.take n)).toArray) {i : Nat} (h : i < s.length) (hn : i < n) : w.cell? ⟨g, i, none⟩ = some (.int .u8 ((s.getD i 0).toNat : Int)) := by
  rw [hb.cell]
  simp [bv, byteV, List.getD_eq_getElem?_getD, h, hn]
theorem clamp_blk {w : World} {g : Nat} {bt : TypeId} {s : List UInt8} (hb : Blk w g bt (bv (s.take 32)).toArray) : Blk ((w.setCell ⟨g, 0, none⟩ (byteV (lowB (s.getD 0 0)))).setCell ⟨g, 31, none⟩ (byteV (topB (s.getD 31 0)))) g bt (bv (clampB s)).toArray := by
  have := (hb.set_ 0 (byteV (lowB (s.getD 0 0)))).set_ 31 (byteV (topB (s.getD 31 0)))
  have e : ((bv (s.take 32)).toArray.setIfInBounds 0 (byteV (lowB (s.getD 0 0)))).setIfInBounds 31 (byteV (topB (s.getD 31 0))) = (bv (clampB s)).toArray := by
    apply Array.toList_inj.1
    rw [Array.toList_setIfInBounds, Array.toList_setIfInBounds]
    unfold clampB bv
    rw [List.map_set, List.map_set]
  rw [e] at this
  exact this
set_option maxRecDepth 100000 in
set_option maxHeartbeats 1600000 in
theorem secret_any (bs : List UInt8) (hl : bs.length = 32) (w : World) :
    Calls Try.prog 35 #[ab bs] w fun e w' => ∃ g, e = .returned (.tuple #[ab (clampB (Q.sha bs)), .slice (some ⟨g, 32, none⟩) 32 32]) ∧ Rd w' 1 (.slice (some ⟨g, 32, none⟩) 32 32) 32 (bv ((Q.sha bs).drop 32)) ∧ Kept [] w w' ∧ w.heap.size ≤ g := by
  have hs := Q.sha_len bs
  have cs := Lib.hid (fun (u : World) (pv v : Value) (h : Parts u pv [(v, bs)]) => (show Calls Try.prog 61 #[pv] u fun e w' => e = .returned (ab (Q.sha bs)) ∧ Kept [] u w' from by
    have := Q.sum_any pv [(v, bs)] u h (by simp) (by rw [joined_one]; omega)
    rwa [joined_one] at this))
  have hcl := clamp_len (Q.sha bs) (by omega)
  have hpost : ∀ (g : Nat) (w' : World), Rd w' 1 (.slice (some ⟨g, 32, none⟩) 32 32) 32 (bv ((Q.sha bs).drop 32)) → Kept [] w w' → w.heap.size ≤ g → ∃ g', Ending.returned (.tuple #[ab (clampB (Q.sha bs)), .slice (some ⟨g, 32, none⟩) 32 32]) = .returned (.tuple #[ab (clampB (Q.sha bs)), .slice (some ⟨g', 32, none⟩) 32 32]) ∧ Rd w' 1 (.slice (some ⟨g', 32, none⟩) 32 32) 32 (bv ((Q.sha bs).drop 32)) ∧ Kept [] w w' ∧ w.heap.size ≤ g' := fun _ _ h1 h2 h3 => ⟨_, rfl, h1, h2, h3⟩
  replace hpost := Lib.hid hpost
  generalize Q.sha bs = s at *
  have hl2 := Lib.hid hl
  have hs2 := Lib.hid hs
  clear hl hs
  go_enter Try.func35, Try.ntmps35
  go_wp2_with (first
    | ((with_reducible refine wpl_at 1 ?_); (refine wpl_box (o := ⟨some 1, _, _, _, _, _⟩) (v := ab bs) rfl (.tmp 0) rfl rfl ?_); intro g1 w1 m1; have M1 := Lib.hid m1; clear m1)
    | ((with_reducible refine wpl_at 2 ?_); (refine wpl_new (o := ⟨some 2, _, _, _, _, _⟩) rfl rfl zeroB ?_); intro g2 w2 m2; have M2 := Lib.hid m2; clear m2)
    | ((with_reducible refine wpl_at 7 ?_); (refine wpl_bslice1 (o := ⟨some 7, _, _, _, _, _⟩) (v0 := .slice (some ⟨g1, 0, none⟩) 32 32) (cells := #[.slice (some ⟨g1, 0, none⟩) 32 32]) rfl slicesT rfl rfl (by simp) rfl rfl ?_); intro g7 w7 m7
       have P7 := Lib.hid (parts1 (x := bs) m7.blk (by rw [hl2.out]; exact Blk.rd ((M1.out.blk.kept M2.out.kept (by simp)).kept m7.kept (by simp)) (by simp [hl2.out]) (Nat.le_refl _)))
       have K7 := Lib.hid ((M1.out.kept.then0 M2.out.kept).then0 m7.kept)
       have B2 := Lib.hid (M2.out.blk.kept m7.kept (by simp))
       have L2 := Lib.hid (Nat.le_trans M1.out.kept.size M2.out.le)
       clear m7 M1 M2)
    | (go_at_call 61; (with_reducible refine (cs.out _ _ _ P7.out).mono ?_); rintro e w8 ⟨rfl, k8⟩
       replace B2 := Lib.hid (B2.out.kept k8 (by simp))
       replace K7 := Lib.hid (K7.out.then0 k8)
       clear k8 P7)
    | ((with_reducible refine wpl_at 4 ?_); (refine wpl_new (o := ⟨some 4, _, _, _, _, _⟩) rfl rfl Q.sig_z ?_); intro g4 w4 m4
       refine wpl_store_row (cs := (bv s).toArray) (o := ⟨none, Op.store 24 (.tmp 4) (.tmp 8), _, _, _, _⟩) Q.sigR rfl (.tmp 4) (.tmp 8) rfl rfl rfl m4.blk (by rfl) (by simp [hs2.out]) (one_ab _) ?_
       intro wb b4 k4
       have kk := m4.kept.then1 k4 m4.le
       have B4 := Lib.hid b4
       have L4 := Lib.hid (Nat.le_trans K7.out.size m4.le)
       replace B2 := Lib.hid (B2.out.kept kk (by simp))
       replace K7 := Lib.hid (K7.out.then0 kk)
       have hat := arr32_at g4
       clear m4 b4 k4 kk)
    | ((with_reducible refine wpl_at 11 ?_); refine wpl_loadp (o := ⟨some 11, _, _, _, _, _⟩) (cs := bv (s.take 32)) arrB.row rfl (.tmp 10) rfl rfl (head_rg B4.out 32) (by simp [hs2.out]) ?_)
    | ((with_reducible refine wpl_at 5 ?_); (refine wpl_new (o := ⟨some 5, _, _, _, _, _⟩) rfl rfl zeroB ?_); intro g5 w5 m5
       refine wpl_store_row (cs := (bv (s.take 32)).toArray) (o := ⟨none, Op.store 26 (.tmp 5) (.tmp 11), _, _, _, _⟩) arrB.row rfl (.tmp 5) (.tmp 11) rfl rfl rfl m5.blk (by rfl) (by simp [hs2.out]) (one_ab _) ?_
       intro wb5 b5 k5
       have kk := m5.kept.then1 k5 m5.le
       have B5 := Lib.hid b5
       have q0 := tk_at b5 (i := 0) (by rw [hs2.out]; decide) (by decide)
       have q31 := tk_at b5 (i := 31) (by rw [hs2.out]; decide) (by decide)
       have f0 := b5.frozen 0
       have f31 := b5.frozen 31
       have v0 := low_val (s.getD 0 0)
       have v31 := top_val (s.getD 31 0)
       have L5 := Lib.hid (Nat.le_trans K7.out.size m5.le)
       have n25 := Lib.hid (show g2 ≠ g5 from fun e => by have := B2.out.lt; have := m5.le; omega)
       replace B4 := Lib.hid (B4.out.kept kk (by simp))
       replace B2 := Lib.hid (B2.out.kept kk (by simp))
       replace K7 := Lib.hid (K7.out.then0 kk)
       clear m5 b5 k5 kk))
  clear q0 q31 f0 f31 v0 v31
  have v0 : bits .and .u8 ((s[0]?.getD 0).toNat : Int) 248 = ((lowB (s.getD 0 0)).toNat : Int) := by rw [← List.getD_eq_getElem?_getD]; exact low_val _
  have v31 : bits .or .u8 (bits .and .u8 ((s[31]?.getD 0).toNat : Int) 127) 64 = ((topB (s.getD 31 0)).toNat : Int) := by rw [← List.getD_eq_getElem?_getD]; exact top_val _
  rw [v0, v31]
  have B5' := Lib.hid (clamp_blk B5.out)
  have kk := Lib.hid (((Kept.refl [g5] wb5).setCell (p := ⟨g5, 0, none⟩) (.inl (by simp)) (byteV (lowB (s.getD 0 0)))).setCell (p := ⟨g5, 31, none⟩) (.inl (by simp)) (byteV (topB (s.getD 31 0))))
  have n45 := Lib.hid (show g4 ≠ g5 from B4.out.ne_ B5.out (by decide))
  replace B2 := Lib.hid (B2.out.kept kk.out (by simpa using n25.out))
  replace B4 := Lib.hid (B4.out.kept kk.out (by simpa using n45.out))
  replace K7 := Lib.hid (K7.out.then1 kk.out L5.out)
  replace hcl := Lib.hid hcl
  clear kk B5 v0 v31
  generalize lowB (s.getD 0 0) = V0 at *
  generalize topB (s.getD 31 0) = V31 at *
  refine Txt.wp_textG [] (fun _ => True) _ (by kernel_rfl) (by kernel_rfl) rfl True.intro (Txt.segs_cons ?_)
  go_wp2_with (first
    | refine wpl_load_row (o := ⟨some 21, _, _, _, _, _⟩) arrB.row rfl (.tmp 5) rfl rfl B5'.out.drew (by simpa using hcl.out) ?_
    | ((refine wpl_store_row (cs := (bv (clampB s)).toArray) (o := ⟨none, Op.store 26 (.tmp 2) (.tmp 21), _, _, _, _⟩) arrB.row rfl (.tmp 2) (.tmp 21) rfl rfl rfl B2.out.drew (by rfl) (by simpa using hcl.out) (one_ab _) ?_); intro wz bz kz))
  refine ⟨rfl, True.intro, Txt.segs_cons ?_⟩
  go_wp2_with fail
  refine ⟨rfl, True.intro, Txt.segs_nil ⟨⟨by kernel_rfl, ?_⟩, ?_⟩⟩
  · intro j hj; simp at hj
  have n24 := Lib.hid (show g4 ≠ g2 from B4.out.ne_ B2.out (by decide))
  have R4 := Lib.hid (drop_rd (B4.out.kept kz.from_drew (by simpa using n24.out)) hs2.out)
  have K9 := Lib.hid (K7.out.then1 kz.from_drew L2.out)
  clear kz n24 B5' B4 B2 K7 cs
  go_wp2_with fail
  exact ret_row2 arrB.row rfl rfl bz (by simpa using hcl.out) rfl (hpost.out g4 _ R4.out K9.out L4.out)
end Go.Proofs.Ytdbngnlpafcogaa
