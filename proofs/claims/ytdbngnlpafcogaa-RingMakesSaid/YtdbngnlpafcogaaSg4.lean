/-
  The sign: Sign.
-/
import Derived.Test.YtdbngnlpafcogaaSg3
import Derived.Test.YtdbngnlpafcogaaSg4t
namespace Go.Proofs.Ytdbngnlpafcogaa
open Go.RowKit Go.Mem Go.Txt

theorem joined_app (qs ps : List (Value × List UInt8)) : joined (qs ++ ps) = joined qs ++ joined ps := by simp [joined, bytesOf]
/-- Parts put behind others that a literal holds. -/
theorem with_made {w w' : World} {pv : Value} {ps : List (Value × List UInt8)} (qs : List (Value × List UInt8)) {g n : Nat} {cs : Array Value} (hp : Parts w pv ps) (hi : ∀ x ∈ qs, Rd w 1 x.1 x.2.length (bv x.2)) (m : Made w w' g 23 cs) (hc : cs = (qs.map (·.1)).toArray) (hq : n = qs.length) (hn : ps.length ≤ 1000000000) (hm : qs.length ≤ 1000) :
    Calls Try.prog 45 #[pv, .slice (some ⟨g, 0, none⟩) n n] w' fun e w'' => ∃ v, e = .returned v ∧ Parts w'' v (qs ++ ps) ∧ Kept [] w' w'' := by
  subst hc; subst hq
  exact with_full pv g _ ps qs w' (hp.kept0 m.kept) rfl (Ow.close m.blk (Nat.le_refl _) (by omega) (by simp) (by simp [List.take_of_length_le])) (fun x hx => (hi x hx).kept0 m.kept) hn hm
/-- The number of parts. -/
theorem num_c (pv : Value) (ps : List (Value × List UInt8)) (m : List UInt8) (w : World) (hp : Parts w pv ps) (hj : joined ps = m) (hn : ps.length ≤ 9223372036854775807) (hl : m.length ≤ 140737488353000) :
    Calls Try.prog 44 #[pv] w fun e w' => e = .returned (Z.w4 (numQ m)) ∧ Kept [] w w' := by
  subst hj
  exact snumber_any pv ps w hp hn hl
theorem numQ_lt (m : List UInt8) : numQ m < Z.LL := Nat.mod_lt _ (by decide)
/-- What Sign says. -/
def rS (bs m : List UInt8) : Nat := numQ ((Q.sha bs).drop 32 ++ m)
def RS (bs m : List UInt8) : List UInt8 := encS (le (rS bs m) 32)
def hS (bs m : List UInt8) : Nat := numQ (RS bs m ++ (encS (numS bs) ++ m))
def sS (bs m : List UInt8) : Nat := (rS bs m + hS bs m * (Z.leV (numS bs) % Z.LL) % Z.LL) % Z.LL
def signB (bs m : List UInt8) : List UInt8 := RS bs m ++ le (sS bs m) 32
theorem enters_schash (xs : Array Value) (w : World) : (callFunc 47 xs).run Try.prog w = .ok (.enter 47 xs) w := enters_of (c := _) Try.func47 (by kernel_rfl) rfl xs w
theorem enters_with (xs : Array Value) (w : World) : (callFunc 45 xs).run Try.prog w = .ok (.enter 45 xs) w := enters_of (c := _) Try.func45 (by kernel_rfl) rfl xs w
theorem enters_number (xs : Array Value) (w : World) : (callFunc 44 xs).run Try.prog w = .ok (.enter 44 xs) w := enters_of (c := _) Try.func44 (by kernel_rfl) rfl xs w
theorem enters_modulo (xs : Array Value) (w : World) : (callFunc 90 xs).run Try.prog w = .ok (.enter 90 xs) w := enters_of (c := _) Try.func90 (by kernel_rfl) rfl xs w
theorem enters_scmul (xs : Array Value) (w : World) : (callFunc 89 xs).run Try.prog w = .ok (.enter 89 xs) w := enters_of (c := _) Try.func89 (by kernel_rfl) rfl xs w
theorem enters_scadd (xs : Array Value) (w : World) : (callFunc 88 xs).run Try.prog w = .ok (.enter 88 xs) w := enters_of (c := _) Try.func88 (by kernel_rfl) rfl xs w
theorem zero64 : (Try.prog.info? 24).map (·.zero) = some (some (ab (noughts 64))) := Q.sig_z
set_option maxRecDepth 100000 in
set_option maxHeartbeats 3200000 in
theorem sign_walk {bs n A t RB SB l1 : List UInt8} {b p1 b2 p2 : P4} {r h x y s : Nat} (hl : bs.length = 32) (hn : n.length = 32) (hA : A.length = 32) (hR : RB.length = 32) (hS : SB.length = 32) (hl1 : l1.length = 32) (ht : t.length = 32)
    (pv : Value) (ps : List (Value × List UInt8)) (w : World) (hp : Parts w pv ps) (hn2 : ps.length ≤ 1000000000)
    (cse : ∀ u, Calls Try.prog 35 #[ab bs] u fun e w' => ∃ g, e = .returned (.tuple #[ab n, .slice (some ⟨g, 32, none⟩) 32 32]) ∧ Rd w' 1 (.slice (some ⟨g, 32, none⟩) 32 32) 32 (bv t) ∧ Kept [] u w' ∧ u.heap.size ≤ g)
    (cb : BsC b) (cp1 : MsC b n p1) (ch1 : HsC p1 A)
    (cr : ∀ u v z, Parts u v ((z, t) :: ps) → Calls Try.prog 44 #[v] u fun e w' => e = .returned (Z.w4 r) ∧ Kept [] u w')
    (chr : ∀ u, Calls Try.prog 47 #[Z.w4 r] u fun e w' => e = .returned (ab l1) ∧ Kept [] u w')
    (cb2 : BsC b2) (cp2 : MsC b2 l1 p2) (ch2 : HsC p2 RB)
    (ch : ∀ u v z1 z2, Parts u v ((z1, RB) :: (z2, A) :: ps) → Calls Try.prog 44 #[v] u fun e w' => e = .returned (Z.w4 h) ∧ Kept [] u w')
    (cmod : ∀ u, Calls Try.prog 90 #[ab n] u fun e w' => e = .returned (Z.w4 x) ∧ Kept [] u w')
    (cmul : ∀ u, Calls Try.prog 89 #[Z.w4 h, Z.w4 x] u fun e w' => e = .returned (Z.w4 y) ∧ Kept [] u w')
    (cadd : ∀ u, Calls Try.prog 88 #[Z.w4 r, Z.w4 y] u fun e w' => e = .returned (Z.w4 s) ∧ Kept [] u w')
    (chs : ∀ u, Calls Try.prog 47 #[Z.w4 s] u fun e w' => e = .returned (ab SB) ∧ Kept [] u w') :
    Calls Try.prog 52 #[ab bs, pv] w fun e w' => e = .returned (ab (RB ++ SB)) ∧ Kept [] w w' := by
  replace hl := Lib.hid hl
  replace hn := Lib.hid hn
  replace hA := Lib.hid hA
  replace hR := Lib.hid hR
  replace hS := Lib.hid hS
  replace hl1 := Lib.hid hl1
  replace ht := Lib.hid ht
  replace hp := Lib.hid hp
  replace hn2 := Lib.hid hn2
  replace cse := Lib.hid cse
  replace cb := Lib.hid cb
  replace cp1 := Lib.hid cp1
  replace ch1 := Lib.hid ch1
  replace cr := Lib.hid cr
  replace chr := Lib.hid chr
  replace cb2 := Lib.hid cb2
  replace cp2 := Lib.hid cp2
  replace ch2 := Lib.hid ch2
  replace ch := Lib.hid ch
  replace cmod := Lib.hid cmod
  replace cmul := Lib.hid cmul
  replace cadd := Lib.hid cadd
  replace chs := Lib.hid chs
  obtain ⟨PA, pc, e0, _, _, _⟩ := hp.out.outer
  subst e0
  go_enter Try.func52, Try.ntmps52
  go_wp2_with (first
    | ((with_reducible refine wpl_at 2 ?_); (refine wpl_box (o := ⟨some 2, _, _, _, _, _⟩) (v := ab bs) rfl (.tmp 0) rfl rfl ?_); intro g1 w1 m1; have M1 := Lib.hid m1; clear m1)
    | ((with_reducible refine wpl_at 4 ?_); (refine wpl_new (o := ⟨some 4, _, _, _, _, _⟩) rfl rfl zero64 ?_); intro g2 w2 m2; have M2 := Lib.hid m2; clear m2)
    | ((with_reducible refine wpl_at 14 ?_); refine wpl_load_row (cs := (bv bs).toArray) (o := ⟨some 14, _, _, _, _, _⟩) arrB.row rfl (.tmp 2) rfl rfl (M1.out.blk.kept M2.out.kept (by simp)) (by simpa using hl.out) ?_)
    | (go_at_call 35; (with_reducible refine (cse.out _).mono ?_); rintro e w7 ⟨g, rfl, r7, k7, l7⟩
       have B4 := Lib.hid (M2.out.blk.kept k7 (by simp))
       have L4 := Lib.hid (Nat.le_trans M1.out.kept.size M2.out.le)
       have KK := Lib.hid ((M1.out.kept.then0 M2.out.kept).then0 k7)
       have R6 := Lib.hid r7
       clear r7 k7 l7)
    | ((with_reducible refine wpl_at 5 ?_); (refine wpl_new (o := ⟨some 5, _, _, _, _, _⟩) rfl rfl zeroB ?_); intro g5 w5 m5
       refine wpl_store_row (cs := (bv n).toArray) (o := ⟨none, Op.store 26 (.tmp 5) (.tmp 16), _, _, _, _⟩) arrB.row rfl (.tmp 5) (.tmp 16) rfl rfl rfl m5.blk (by rfl) (by simpa using hn.out) (one_ab _) ?_
       intro wb b5 k5
       have kk := m5.kept.then1 k5 m5.le
       have B5 := Lib.hid b5
       have N45 := Lib.hid (m5.ne B4.out.lt)
       replace B4 := Lib.hid (B4.out.kept kk (by simp))
       replace R6 := Lib.hid (R6.out.kept0 kk)
       replace KK := Lib.hid (KK.out.then0 kk)
       clear m5 b5 k5 kk))
  clear cse M1 M2
  refine Txt.wp_lastR (by kernel_rfl) [Txt.isV b.v, Txt.isV (ab n), Txt.isV p1.v, Txt.isV (ab A), Txt.isNew wb.heap.size 26 (ab (noughts 32)).cells] (fun u => Kept [] wb u) (by kernel_rfl) rfl rfl (by kernel_rfl) ((Kept.refl [] wb).drew) (fun u u' h k => h.then0 k) ⟨?_, ?_, ?_, ?_, ?_, trivial⟩ ?_
  · exact Txt.askR_call0 rfl enters_base cb.out
  · exact Txt.askR_load arrB.row rfl rfl (by decide) B5.out (by simpa using hn.out)
  · exact Txt.askR_call2 (x := 18) (x2 := 19) (j := 0) (j2 := 1) rfl enters_pmul rfl rfl rfl ⟨⟨0, .data⟩, by simp, rfl, rfl⟩ rfl rfl rfl ⟨⟨1, .data⟩, by simp, rfl, rfl⟩ cp1.out
  · exact Txt.askR_call1 (x := 20) (j := 2) rfl enters_phash rfl rfl rfl ⟨⟨2, .data⟩, by simp, rfl, rfl⟩ ch1.out
  · exact Txt.askR_new rfl zeroB
  intro v wc kc hv
  have v0 : v 0 = b.v := hv 0 _ rfl
  have v1 : v 1 = ab n := hv 1 _ rfl
  have v2 : v 2 = p1.v := hv 2 _ rfl
  have v3 : v 3 = ab A := hv 3 _ rfl
  have h4 : Txt.isNew wb.heap.size 26 (ab (noughts 32)).cells (v 4) wc := hv 4 _ rfl
  clear hv
  simp [Txt.actOf, List.range, List.range.loop, Act.put, v0, v1, v2, v3]
  generalize v 4 = u4 at *
  clear v0 v1 v2 v3
  obtain ⟨g7, rfl, b7, l7⟩ := h4.get
  clear h4
  refine Txt.wp_put arrB.row rfl rfl rfl b7 (by rfl) (by simpa using hA.out) (one_ab _) ?_
  intro wd b7 k7
  simp [Act.put]
  replace b7 := Lib.hid b7
  have kk := kc.then1 k7 l7
  have N7 := Lib.hid (show g2 ≠ g7 from fun e => by have := B4.out.lt; omega)
  replace B4 := Lib.hid (B4.out.kept kk (by simp))
  replace B5 := Lib.hid (B5.out.kept kk (by simp))
  replace R6 := Lib.hid (R6.out.kept0 kk)
  replace KK := Lib.hid (KK.out.then0 kk)
  clear kc k7 l7 kk
  have PP := Lib.hid (hp.out.kept0 KK.out)
  go_wp2_with (first
    | ((with_reducible refine wpl_at 24 ?_); (refine wpl_bslice1 (o := ⟨some 24, _, _, _, _, _⟩) (v0 := .slice (some ⟨g, 32, none⟩) 32 32) (cells := #[.slice (some ⟨g, 32, none⟩) 32 32]) rfl slicesT rfl rfl (by simp) rfl rfl ?_); intro g24 w24 m24
       have cw := Lib.hid (with_made (n := 1) [(.slice (some ⟨g, 32, none⟩) 32 32, t)] PP.out (by simpa [ht.out] using R6.out) m24 rfl rfl hn2.out (by simp))
       have K24 := Lib.hid m24.kept
       clear m24)
    | (go_at_call 45; (with_reducible refine cw.out.mono ?_); rintro e w25 ⟨v25, rfl, p25, k25⟩
       have P25 := Lib.hid p25
       have K25 := Lib.hid (K24.out.then0 k25)
       clear p25 k25 cw)
    | (go_at_call 44; (with_reducible refine (cr.out _ _ _ P25.out).mono ?_); rintro e w26 ⟨rfl, k26⟩
       replace K25 := Lib.hid (K25.out.then0 k26)
       clear k26 P25)
    | ((with_reducible refine wpl_at 8 ?_); (refine wpl_new (o := ⟨some 8, _, _, _, _, _⟩) rfl rfl Z.zeroSc ?_); intro g8 w8 m8
       refine wpl_store_row (o := ⟨none, Op.store 99 (.tmp 8) (.tmp 26), _, _, _, _⟩) Z.structSc rfl (.tmp 8) (.tmp 26) rfl rfl rfl m8.blk rfl rfl (one_uva _) ?_
       intro wb8 b8 k8
       have kk := K25.out.then0 (m8.kept.then1 k8 m8.le)
       have B8 := Lib.hid b8
       replace B4 := Lib.hid (B4.out.kept kk (by simp))
       replace B5 := Lib.hid (B5.out.kept kk (by simp))
       replace b7 := Lib.hid (b7.out.kept kk (by simp))
       replace KK := Lib.hid (KK.out.then0 kk)
       clear m8 b8 k8 kk K25 R6 PP))
  refine Txt.wp_lastR (by kernel_rfl) [Txt.isV b2.v, Txt.isV (Z.w4 r), Txt.isV (ab l1), Txt.isV p2.v, Txt.isV (ab RB), Txt.isNew wb8.heap.size 26 (ab (noughts 32)).cells] (fun u => Kept [] wb8 u) (by kernel_rfl) rfl rfl (by kernel_rfl) ((Kept.refl [] wb8).drew) (fun u u' h k => h.then0 k) ⟨?_, ?_, ?_, ?_, ?_, ?_, trivial⟩ ?_
  · exact Txt.askR_call0 rfl enters_base cb2.out
  · exact Txt.askR_load Z.structSc rfl rfl (by decide) B8.out rfl
  · exact Txt.askR_call1 (x := 28) (j := 1) rfl enters_schash rfl rfl rfl ⟨⟨1, .data⟩, by simp, rfl, rfl⟩ chr.out
  · exact Txt.askR_call2 (x := 27) (x2 := 29) (j := 0) (j2 := 2) rfl enters_pmul rfl rfl rfl ⟨⟨0, .data⟩, by simp, rfl, rfl⟩ rfl rfl rfl ⟨⟨2, .data⟩, by simp, rfl, rfl⟩ cp2.out
  · exact Txt.askR_call1 (x := 30) (j := 3) rfl enters_phash rfl rfl rfl ⟨⟨3, .data⟩, by simp, rfl, rfl⟩ ch2.out
  · exact Txt.askR_new rfl zeroB
  intro v wc kc hv
  have v0 : v 0 = b2.v := hv 0 _ rfl
  have v1 : v 1 = Z.w4 r := hv 1 _ rfl
  have v2 : v 2 = ab l1 := hv 2 _ rfl
  have v3 : v 3 = p2.v := hv 3 _ rfl
  have v4 : v 4 = ab RB := hv 4 _ rfl
  have h5 : Txt.isNew wb8.heap.size 26 (ab (noughts 32)).cells (v 5) wc := hv 5 _ rfl
  clear hv
  simp [Txt.actOf, List.range, List.range.loop, Act.put, v0, v1, v2, v3, v4]
  generalize v 5 = u5 at *
  clear v0 v1 v2 v3 v4
  obtain ⟨g9, rfl, b9, l9⟩ := h5.get
  clear h5
  refine Txt.wp_put arrB.row rfl rfl rfl b9 (by rfl) (by simpa using hR.out) (one_ab _) ?_
  intro wd b9 k9
  simp [Act.put]
  replace b9 := Lib.hid b9
  have kk := kc.then1 k9 l9
  replace B4 := Lib.hid (B4.out.kept kk (by simp))
  replace B5 := Lib.hid (B5.out.kept kk (by simp))
  replace b7 := Lib.hid (b7.out.kept kk (by simp))
  replace B8 := Lib.hid (B8.out.kept kk (by simp))
  replace KK := Lib.hid (KK.out.then0 kk)
  clear kc k9 l9 kk
  have PP := Lib.hid (hp.out.kept0 KK.out)
  have D7 := Lib.hid (show Rd wd 1 (.slice (some ⟨g7, 0, none⟩) 32 32) A.length (bv A) from by rw [hA.out]; exact Blk.rd b7.out (by simp [hA.out]) (Nat.le_refl _))
  have D9 := Lib.hid (show Rd wd 1 (.slice (some ⟨g9, 0, none⟩) 32 32) RB.length (bv RB) from by rw [hR.out]; exact Blk.rd b9.out (by simp [hR.out]) (Nat.le_refl _))
  go_wp2_with fail
  refine Txt.wp_lastR (by kernel_rfl) [Txt.isV (.slice PA ps.length pc), Txt.isV (.slice (some ⟨g9, 0, none⟩) 32 32), Txt.isV (.slice (some ⟨g7, 0, none⟩) 32 32), isTwo wd.heap.size (.slice (some ⟨g9, 0, none⟩) 32 32) (.slice (some ⟨g7, 0, none⟩) 32 32), isParts ((.slice (some ⟨g9, 0, none⟩) 32 32, RB) :: (.slice (some ⟨g7, 0, none⟩) 32 32, A) :: ps), Txt.isV (Z.w4 h), Txt.isNew wd.heap.size 99 (Z.w4 0).cells] (fun u => Kept [] wd u) (by kernel_rfl) rfl rfl (by kernel_rfl) ((Kept.refl [] wd).drew) (fun u u' h k => h.then0 k) ⟨?_, ?_, ?_, ?_, ?_, ?_, ?_, trivial⟩ ?_
  · exact askR_slot (x := 1) rfl (by decide) fun a W hx => exec_mv rfl W hx
  · exact askR_slot (x := 9) rfl (by decide) fun a W hx => exec_cut32 rfl W hx
  · exact askR_slot (x := 7) rfl (by decide) fun a W hx => exec_cut32 rfl W hx
  · exact askR_two (x := 33) (y := 34) (j := 1) (k := 2) rfl rfl rfl rfl rfl rfl ⟨⟨1, .data⟩, by simp, rfl, rfl⟩ rfl rfl rfl ⟨⟨2, .data⟩, by simp, rfl, rfl⟩
  · refine Txt.askR_call rfl enters_with (fun v u u' h k => Parts.kept0 h k) fun a u hS hr _ => ?_
    have e1 : a.tmps.getD 32 undef = .slice PA ps.length pc := hr 0 _ 32 _ rfl rfl rfl ⟨⟨0, .data⟩, by simp, rfl, rfl⟩
    have e2 : isTwo wd.heap.size (.slice (some ⟨g9, 0, none⟩) 32 32) (.slice (some ⟨g7, 0, none⟩) 32 32) (a.tmps.getD 35 undef) u := hr 3 _ 35 _ rfl rfl rfl ⟨⟨3, .data⟩, by simp, rfl, rfl⟩
    obtain ⟨g, h1, h2, h3⟩ := e2
    have : Array.map a.eval #[.tmp 32, .tmp 35] = #[.slice PA ps.length pc, .slice (some ⟨g, 0, none⟩) 2 2] := by simp only [List.map_toArray, List.map_cons, List.map_nil, Act.eval, e1, h1]
    rw [this]
    refine (with_made (n := 2) [(.slice (some ⟨g9, 0, none⟩) 32 32, RB), (.slice (some ⟨g7, 0, none⟩) 32 32, A)] PP.out (by simpa using ⟨D9.out, D7.out⟩) ⟨h2, hS, h3⟩ rfl rfl hn2.out (by simp)).mono ?_
    rintro e u' ⟨v, rfl, hv, hk⟩
    exact ⟨v, rfl, hv, hk⟩
  · refine Txt.askR_call rfl enters_number (fun _ _ _ h _ => h) fun a u hS hr _ => ?_
    have e1 : isParts ((.slice (some ⟨g9, 0, none⟩) 32 32, RB) :: (.slice (some ⟨g7, 0, none⟩) 32 32, A) :: ps) (a.tmps.getD 36 undef) u := hr 4 _ 36 _ rfl rfl rfl ⟨⟨4, .data⟩, by simp, rfl, rfl⟩
    have : Array.map a.eval #[.tmp 36] = #[a.tmps.getD 36 undef] := by simp only [List.map_toArray, List.map_cons, List.map_nil, Act.eval]
    rw [this]
    refine (ch.out _ _ _ _ e1).mono ?_
    rintro e u' ⟨rfl, hk⟩
    exact ⟨_, rfl, rfl, hk⟩
  · exact Txt.askR_new rfl Z.zeroSc
  intro v wc kc hv
  have v0 : v 0 = .slice PA ps.length pc := hv 0 _ rfl
  have v1 : v 1 = .slice (some ⟨g9, 0, none⟩) 32 32 := hv 1 _ rfl
  have v2 : v 2 = .slice (some ⟨g7, 0, none⟩) 32 32 := hv 2 _ rfl
  have v5 : v 5 = Z.w4 h := hv 5 _ rfl
  have h6 : Txt.isNew wd.heap.size 99 (Z.w4 0).cells (v 6) wc := hv 6 _ rfl
  clear hv
  simp [Txt.actOf, List.range, List.range.loop, Act.put, v0, v1, v2, v5]
  generalize v 3 = u33 at *
  generalize v 4 = u34 at *
  generalize v 6 = u6 at *
  clear v0 v1 v2 v5
  obtain ⟨g10, rfl, b10, l10⟩ := h6.get
  clear h6
  refine Txt.wp_put Z.structSc rfl rfl rfl b10 rfl rfl (one_uva _) ?_
  intro we b10 k10
  simp [Act.put]
  replace b10 := Lib.hid b10
  have kk := kc.then1 k10 l10
  replace B4 := Lib.hid (B4.out.kept kk (by simp))
  replace B5 := Lib.hid (B5.out.kept kk (by simp))
  replace b9 := Lib.hid (b9.out.kept kk (by simp))
  replace B8 := Lib.hid (B8.out.kept kk (by simp))
  replace KK := Lib.hid (KK.out.then0 kk)
  clear kc k10 l10 kk PP D7 D9 b7
  go_wp2_with fail
  refine Txt.wp_lastR (by kernel_rfl) [Txt.isV (Z.w4 r), Txt.isV (Z.w4 h), Txt.isV (ab n), Txt.isV (Z.w4 x), Txt.isV (Z.w4 y), Txt.isV (Z.w4 s), Txt.isV (ab SB), Txt.isNew we.heap.size 26 (ab (noughts 32)).cells] (fun u => Kept [] we u) (by kernel_rfl) rfl rfl (by kernel_rfl) ((Kept.refl [] we).drew) (fun u u' h k => h.then0 k) ⟨?_, ?_, ?_, ?_, ?_, ?_, ?_, ?_, trivial⟩ ?_
  · exact Txt.askR_load Z.structSc rfl rfl (by decide) B8.out rfl
  · exact Txt.askR_load Z.structSc rfl rfl (by decide) b10.out rfl
  · exact Txt.askR_load arrB.row rfl rfl (by decide) B5.out (by simpa using hn.out)
  · exact Txt.askR_call1 (x := 40) (j := 2) rfl enters_modulo rfl rfl rfl ⟨⟨2, .data⟩, by simp, rfl, rfl⟩ cmod.out
  · exact Txt.askR_call2 (x := 39) (x2 := 41) (j := 1) (j2 := 3) rfl enters_scmul rfl rfl rfl ⟨⟨1, .data⟩, by simp, rfl, rfl⟩ rfl rfl rfl ⟨⟨3, .data⟩, by simp, rfl, rfl⟩ cmul.out
  · exact Txt.askR_call2 (x := 38) (x2 := 42) (j := 0) (j2 := 4) rfl enters_scadd rfl rfl rfl ⟨⟨0, .data⟩, by simp, rfl, rfl⟩ rfl rfl rfl ⟨⟨4, .data⟩, by simp, rfl, rfl⟩ cadd.out
  · exact Txt.askR_call1 (x := 43) (j := 5) rfl enters_schash rfl rfl rfl ⟨⟨5, .data⟩, by simp, rfl, rfl⟩ chs.out
  · exact Txt.askR_new rfl zeroB
  intro v wc kc hv
  have v0 : v 0 = Z.w4 r := hv 0 _ rfl
  have v1 : v 1 = Z.w4 h := hv 1 _ rfl
  have v2 : v 2 = ab n := hv 2 _ rfl
  have v3 : v 3 = Z.w4 x := hv 3 _ rfl
  have v4 : v 4 = Z.w4 y := hv 4 _ rfl
  have v5 : v 5 = Z.w4 s := hv 5 _ rfl
  have v6 : v 6 = ab SB := hv 6 _ rfl
  have h7 : Txt.isNew we.heap.size 26 (ab (noughts 32)).cells (v 7) wc := hv 7 _ rfl
  clear hv
  simp [Txt.actOf, List.range, List.range.loop, Act.put, v0, v1, v2, v3, v4, v5, v6]
  generalize v 7 = u7 at *
  clear v0 v1 v2 v3 v4 v5 v6
  obtain ⟨g11, rfl, b11, l11⟩ := h7.get
  clear h7
  refine Txt.wp_put arrB.row rfl rfl rfl b11 (by rfl) (by simpa using hS.out) (one_ab _) ?_
  intro wf b11 k11
  simp [Act.put]
  replace b11 := Lib.hid b11
  have kk := kc.then1 k11 l11
  replace B4 := Lib.hid (B4.out.kept kk (by simp))
  replace b9 := Lib.hid (b9.out.kept kk (by simp))
  replace KK := Lib.hid (KK.out.then0 kk)
  clear kc k11 l11 kk B5 B8 b10
  go_wp2_with ((refine wpl_new (o := ⟨some 12, _, _, _, _, _⟩) rfl rfl zero64 ?_); intro g12 wg m12)
  have hz := Lib.hid (show (bv RB).length = 32 by simp [hR.out])
  have hz2 := Lib.hid (show (bv SB).length = 32 by simp [hS.out])
  have b12 := m12.blk
  have D9 := Lib.hid (show Rd wg 1 (.slice (some ⟨g9, 0, none⟩) 32 32) 32 (bv RB) from Blk.rd (b9.out.kept m12.kept (by simp)) hz.out (Nat.le_refl _))
  have M12 := Lib.hid m12
  clear m12
  refine Txt.wp_text (by kernel_rfl) (by kernel_rfl) ?_
  go_wp2_with (refine wpl_cpy bytesT rfl (.tmp 45) (.tmp 46) rfl rfl b12.drew (Nat.le_of_eq rfl) rfl D9.out.drew (one_bv _) ?_; intro wh b13 k13; clear b12)
  have e1 : (over (ab (noughts 64)).cells.toList 0 (List.take 64 (bv RB))).toArray = (bv (over (noughts 64) 0 RB)).toArray := by
    rw [List.take_of_length_le (by rw [hz.out]; omega)]
    exact congrArg _ (over_bv (noughts 64) _ 0)
  rw [e1] at b13
  refine ⟨rfl, by kernel_rfl, ?_⟩
  clear e1
  have N11 := Lib.hid (M12.out.ne b11.out.lt)
  have N4 := Lib.hid (M12.out.ne B4.out.lt)
  have K13 := Lib.hid k13.from_drew
  have B13 := Lib.hid b13
  replace b11 := Lib.hid ((b11.out.kept M12.out.kept (by simp)).kept K13.out (by simpa using N11.out))
  replace B4 := Lib.hid ((B4.out.kept M12.out.kept (by simp)).kept K13.out (by simpa using N4.out))
  have L12 := Lib.hid (Nat.le_trans KK.out.size M12.out.le)
  replace KK := Lib.hid ((KK.out.then0 M12.out.kept).then1 K13.out L12.out)
  clear b13 k13 K13 M12 D9 b9
  go_wp2_with fail
  have hz3 := Lib.hid (show (over (noughts 64) 0 RB).length = 64 by rw [over_len _ _ _ (by simp [hR.out])]; simp)
  have D11 := Lib.hid (show Rd _ 1 (.slice (some ⟨g11, 0, none⟩) 32 32) 32 (bv SB) from Blk.rd b11.out hz2.out (Nat.le_refl _))
  refine Txt.wp_text (by kernel_rfl) (by kernel_rfl) ?_
  go_wp2_with (refine wpl_cpy bytesT rfl (.tmp 48) (.tmp 49) rfl rfl B13.out.drew (by simp [hz3.out]) rfl D11.out.drew (one_bv _) ?_; intro wi b14 k14)
  have e2 : (over (bv (over (noughts 64) 0 RB)).toArray.toList 32 (List.take 32 (bv SB))).toArray = (bv (RB ++ SB)).toArray := by
    rw [List.take_of_length_le (by rw [hz2.out]; omega)]
    show (over (bv (over (noughts 64) 0 RB)) 32 (bv SB)).toArray = _
    rw [over_bv, over0]
    unfold over
    have h1 : (noughts 64).drop RB.length = noughts 32 := by rw [hR.out]; rfl
    have h2 : (RB ++ noughts 32).take 32 = RB := by rw [← hR.out]; simp
    have h3 : (RB ++ noughts 32).drop (32 + SB.length) = [] := by rw [hS.out]; simp [hR.out]
    rw [h1, h2, h3, List.append_nil]
  rw [e2] at b14
  refine ⟨rfl, by kernel_rfl, ?_⟩
  clear e2
  have K14 := Lib.hid k14.from_drew
  have B14 := Lib.hid b14
  replace B4 := Lib.hid (B4.out.kept K14.out (by simpa using N4.out))
  replace KK := Lib.hid (KK.out.then1 K14.out L12.out)
  have hzz := Lib.hid (show (RB ++ SB).length = 64 by simp [hR.out, hS.out])
  obtain ⟨OUT, hO⟩ : ∃ O, O = RB ++ SB := ⟨_, rfl⟩
  rw [← hO] at B14 hzz
  replace hO := Lib.hid hO
  clear b14 k14 K14 b11 D11 hz hz2 hz3
  go_wp2_with (first
    | refine wpl_load_row (cs := (bv OUT).toArray) (o := ⟨some 51, _, _, _, _, _⟩) Q.sigR rfl (.tmp 12) rfl rfl B14.out (by simpa using hzz.out) ?_
    | ((refine wpl_store_row (cs := (bv OUT).toArray) (o := ⟨none, Op.store 24 (.tmp 4) (.tmp 51), _, _, _, _⟩) Q.sigR rfl (.tmp 4) (.tmp 51) rfl rfl rfl B4.out (by rfl) (by simpa using hzz.out) (one_ab _) ?_); intro wz bz kz))
  exact ret_row Q.sigR rfl rfl bz (by simpa using hzz.out) rfl ⟨by rw [hO.out], KK.out.then1 kz L4.out⟩
/-- Sign of any seed and parts. -/
theorem sign_any (bs : List UInt8) (hl : bs.length = 32) (pv : Value) (ps : List (Value × List UInt8)) (m : List UInt8) (w : World) (hp : Parts w pv ps) (hj : joined ps = m) (hn : ps.length ≤ 1000000000) (hm : m.length ≤ 140737488352000) :
    Calls Try.prog 52 #[ab bs, pv] w fun e w' => e = .returned (ab (signB bs m)) ∧ Kept [] w w' := by
  obtain ⟨b, p1, cb, cp1, ch1⟩ := pub_e (numS_len bs)
  obtain ⟨b2, p2, cb2, cp2, ch2⟩ := pub_e (le_len (rS bs m) 32)
  have hd : ((Q.sha bs).drop 32).length = 32 := by simp [Q.sha_len]
  have hAl := encS_len (numS bs)
  have hRl : (RS bs m).length = 32 := encS_len _
  refine sign_walk hl (numS_len bs) hAl hRl (le_len (sS bs m) 32) (le_len _ _) hd pv ps w hp hn (fun u => secret_any bs hl u) cb cp1 ch1 (r := rS bs m) (h := hS bs m) (x := Z.leV (numS bs) % Z.LL) (y := hS bs m * (Z.leV (numS bs) % Z.LL) % Z.LL) (s := sS bs m) ?_ (fun u => Z.hash_any _ u) cb2 cp2 ch2 ?_ (fun u => Z.modulo_any _ (numS_len bs) u) (fun u => Z.mul_any _ _ (Nat.lt_trans (numQ_lt _) Z.LL_lt) (Nat.lt_trans (Nat.mod_lt _ Z.LL_pos) Z.LL_lt) u) (fun u => Z.add_any _ _ (numQ_lt _) (Nat.mod_lt _ Z.LL_pos) u) (fun u => Z.hash_any _ u)
  · intro u v z hz
    exact num_c v _ _ u hz (by rw [← hj]; rfl) (by simp; omega) (by simp [hd]; omega)
  · intro u v z1 z2 hz
    exact num_c v _ _ u hz (by rw [← hj]; rfl) (by simp; omega) (by simp [hAl, hRl]; omega)
end Go.Proofs.Ytdbngnlpafcogaa
