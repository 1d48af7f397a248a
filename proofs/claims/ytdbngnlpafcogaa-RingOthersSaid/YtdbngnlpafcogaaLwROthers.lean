/-
  The ring's laws: any bytes are opened as layer 6 verifies them (RingOthers): the walk.
-/
import Derived.Test.YtdbngnlpafcogaaRg8
namespace Go.Proofs.Ytdbngnlpafcogaa
open Go.RowKit Go.Mem Go.Txt

theorem enters_rwhat (xs : Array Value) (w : World) : (callFunc 14 xs).run Try.prog w = .ok (.enter 14 xs) w := enters_of (c := _) Try.func14 (by kernel_rfl) rfl xs w
theorem rwhat_c (tag : UInt8) (v : Value) (body : List UInt8) (u : World) (h : isRd body v u) (hb : body.length ≤ 140737488351232) : Calls Try.prog 14 #[.int .u8 (tag.toNat : Int), v] u fun e w' => ∃ v', e = .returned v' ∧ isRd (whatB tag body) v' w' ∧ Kept [] u w' := by
  refine (rwhat_any tag v body u h hb).mono ?_
  rintro e w' ⟨v', rfl, hn⟩
  exact ⟨v', rfl, hn.rd, hn.kept⟩
set_option maxRecDepth 100000 in
set_option maxHeartbeats 3200000 in
theorem others_true {seed K S SG W body : List UInt8} (tag : UInt8) (hs : seed.length = 32) (hK : K.length = 32) (hS : S.length = 64) (hg : SG.length = 64) (ls : Value.agg #[.int .u8 (tag.toNat : Int), .int .u8 9, .int .u8 0, .int .u8 0, .int .u8 0, .int .u8 0, .int .u8 0, .int .u8 0, .int .u8 0, .int .u8 0, .int .u8 0, .int .u8 0, .int .u8 0, .int .u8 0, .int .u8 0, .int .u8 0, .int .u8 0, .int .u8 0, .int .u8 0, .int .u8 0, .int .u8 0, .int .u8 0, .int .u8 0, .int .u8 0, .int .u8 0, .int .u8 0, .int .u8 0, .int .u8 0, .int .u8 0, .int .u8 0, .int .u8 0, .int .u8 0] = ab seed) (v : Value) (w : World) (hbd : isRd body v w)
    (cp : ∀ u, Calls Try.prog 11 #[ab seed] u fun e w' => e = .returned (ab K) ∧ Kept [] u w')
    (cw : ∀ u, isRd body v u → Calls Try.prog 14 #[.int .u8 (tag.toNat : Int), v] u fun e w' => ∃ v', e = .returned v' ∧ isRd W v' w' ∧ Kept [] u w')
    (cv : ∀ u pv, isP1 W pv u → Calls Try.prog 13 #[ab K, ab SG, pv] u fun e w' => e = .returned (.bool true) ∧ Kept [] u w')
    (co : ∀ u, isRd body v u → Calls Try.prog 16 #[ab K, .int .u8 (tag.toNat : Int), v, ab SG] u fun e w' => e = .returned (.bool true) ∧ Kept [] u w')
    (o1 : OpC K SG body (tag.toNat : Int) true) (ce : SeC seed S body (tag.toNat : Int)) (o2 : OpC K S body (tag.toNat : Int) true) :
    Calls Try.prog 3 #[.int .u8 (tag.toNat : Int), v, ab SG] w fun e w' => e = .returned (.bool true) ∧ Kept [] w w' := by
  have cf := Lib.hid first_any
  have cn := Lib.hid (rnew_one hK)
  obtain ⟨BA, bc, rfl, _⟩ := id hbd
  replace hs := Lib.hid hs
  replace hK := Lib.hid hK
  replace hS := Lib.hid hS
  replace hg := Lib.hid hg
  replace hbd := Lib.hid hbd
  replace cp := Lib.hid cp
  replace cw := Lib.hid cw
  replace cv := Lib.hid cv
  replace co := Lib.hid co
  replace o1 := Lib.hid o1
  replace ce := Lib.hid ce
  replace o2 := Lib.hid o2
  have t := Lib.hid (Pm.none w)
  go_enter Try.func3, Try.ntmps3
  go_wp2_with (first
    | ((with_reducible refine wpl_at 5 ?_); (refine wpl_box (o := ⟨some 5, _, _, _, _, _⟩) (v := ab SG) rfl (.tmp 2) rfl rfl ?_); intro g5 w5 m5
       replace t := Lib.hid ((t.out.kept m5.kept).cons (show Blk w5 g5 24 (bv SG).toArray from m5.blk))
       clear m5)
    | (go_at_call 10; (with_reducible refine (cf.out _).mono ?_); rintro e v6 ⟨rfl, kk⟩; replace t := Lib.hid (t.out.kept kk); clear kk)
    | ((with_reducible refine wpl_at 7 ?_); (refine wpl_new (o := ⟨some 7, _, _, _, _, _⟩) rfl rfl zeroB ?_); intro g7 w7 m7
       refine wpl_store_row (cs := (bv seed).toArray) (o := ⟨none, Op.store 26 (.tmp 7) (.tmp 15), _, _, _, _⟩) arrB.row rfl (.tmp 7) (.tmp 15) rfl rfl rfl m7.blk (by rfl) (by simpa using hs.out) (one_ab _) ?_
       intro wb7 b7 k7
       replace t := Lib.hid (t.out.put m7 b7 k7)
       clear m7 b7 k7)
    | ((with_reducible refine wpl_at 16 ?_); refine wpl_load_row (cs := (bv seed).toArray) (o := ⟨some 16, _, _, _, _, _⟩) arrB.row rfl (.tmp 7) rfl rfl (t.out.s (g7, 26, (bv seed).toArray) (by simp)) (by simpa using hs.out) ?_)
    | (go_at_call 11; (with_reducible refine (cp.out _).mono ?_); rintro e v17 ⟨rfl, kk⟩; replace t := Lib.hid (t.out.kept kk); clear kk)
    | ((with_reducible refine wpl_at 8 ?_); (refine wpl_new (o := ⟨some 8, _, _, _, _, _⟩) rfl rfl zeroB ?_); intro g8 w8 m8
       refine wpl_store_row (cs := (bv K).toArray) (o := ⟨none, Op.store 26 (.tmp 8) (.tmp 17), _, _, _, _⟩) arrB.row rfl (.tmp 8) (.tmp 17) rfl rfl rfl m8.blk (by rfl) (by simpa using hK.out) (one_ab _) ?_
       intro wb8 b8 k8
       replace t := Lib.hid (t.out.put m8 b8 k8)
       clear m8 b8 k8)
    | ((with_reducible refine wpl_at 19 ?_); refine wpl_load_row (cs := (bv K).toArray) (o := ⟨some 19, _, _, _, _, _⟩) arrB.row rfl (.tmp 8) rfl rfl (t.out.s (g8, 26, (bv K).toArray) (by simp)) (by simpa using hK.out) ?_)
    | ((with_reducible refine wpl_at 20 ?_); (refine wpl_bslice1 (o := ⟨some 20, _, _, _, _, _⟩) (v0 := ab K) (cells := (bv K).toArray) rfl keysT rfl rfl (by decide) rfl (by simpa using hK.out) ?_); intro g20 w20 m20
       have R20 := Lib.hid (one_row m20.blk hK.out)
       replace t := Lib.hid (t.out.kept m20.kept)
       clear m20)
    | (go_at_call 12; (with_reducible refine (cn.out _ _ R20.out).mono ?_); rintro e v21 ⟨r, b, kv, rfl, h21, k21, l21⟩
       have HB := Lib.hid (Nat.le_trans t.out.k.size l21)
       replace t := Lib.hid (t.out.kept k21)
       have H := Lib.hid h21
       have B8 := Lib.hid (t.out.s (g8, 26, (bv K).toArray) (by simp))
       have B5 := Lib.hid (t.out.s (g5, 24, (bv SG).toArray) (by simp))
       clear h21 k21 l21 R20))
  refine Txt.wp_lastR (by kernel_rfl) [Txt.isV (ab K), Txt.isV (ab SG), Txt.isV (.int .u8 (tag.toNat : Int)), Txt.isV (.slice BA body.length bc), isRd W, isP1 W, Txt.isV (.bool true)] (fun u => Kept [] v21 u) (by kernel_rfl) rfl rfl (by kernel_rfl) ((Kept.refl [] v21).drew) (fun u u2 h k => h.then0 k) ⟨?_, ?_, ?_, ?_, ?_, ?_, ?_, trivial⟩ ?_
  · exact Txt.askR_load arrB.row rfl rfl (by decide) B8.out (by simpa using hK.out)
  · exact Txt.askR_load Q.sigR rfl rfl (by decide) B5.out (by simpa using hg.out)
  · exact askR_slot (x := 0) rfl (by decide) fun a W hx => exec_mv rfl W hx
  · exact askR_slot (x := 1) rfl (by decide) fun a W hx => exec_mv rfl W hx
  · refine Txt.askR_call rfl enters_rwhat (fun v u u2 h k => isRd.kept0 h k) fun a u hS hr _ => ?_
    have e0 : a.tmps.getD 32 undef = (.int .u8 (tag.toNat : Int)) := hr 2 _ 32 _ rfl rfl rfl ⟨⟨2, .data⟩, by simp, rfl, rfl⟩
    have e1 : a.tmps.getD 33 undef = (.slice BA body.length bc) := hr 3 _ 33 _ rfl rfl rfl ⟨⟨3, .data⟩, by simp, rfl, rfl⟩
    have hm : Array.map a.eval #[.tmp 32, .tmp 33] = #[(.int .u8 (tag.toNat : Int)), (.slice BA body.length bc)] := by simp only [List.map_toArray, List.map_cons, List.map_nil, Act.eval, e0, e1]
    rw [hm]
    refine (cw.out u (hbd.out.kept0 (t.out.k.then0 hS))).mono ?_
    rintro e u2 ⟨v, rfl, hv, hk⟩
    exact ⟨v, rfl, hv, hk⟩
  · exact askR_oneR (x := 34) (i := 4) rfl rfl rfl rfl ⟨⟨4, .data⟩, by simp, rfl, rfl⟩
  · refine Txt.askR_call rfl enters_verify (fun _ _ _ h _ => h) fun a u hS hr _ => ?_
    have e0 : a.tmps.getD 30 undef = (ab K) := hr 0 _ 30 _ rfl rfl rfl ⟨⟨0, .data⟩, by simp, rfl, rfl⟩
    have e1 : a.tmps.getD 31 undef = (ab SG) := hr 1 _ 31 _ rfl rfl rfl ⟨⟨1, .data⟩, by simp, rfl, rfl⟩
    have e2 := hr 5 _ 35 _ rfl rfl rfl ⟨⟨5, .data⟩, by simp, rfl, rfl⟩
    have hm : Array.map a.eval #[.tmp 30, .tmp 31, .tmp 35] = #[(ab K), (ab SG), a.tmps.getD 35 undef] := by simp only [List.map_toArray, List.map_cons, List.map_nil, Act.eval, e0, e1]
    rw [hm]
    refine (cv.out u _ e2).mono ?_
    rintro e u2 ⟨rfl, hk⟩
    exact ⟨_, rfl, rfl, hk⟩
  intro v wc kc hv
  have v0 : v 0 = (ab K) := hv 0 _ rfl
  have v1 : v 1 = (ab SG) := hv 1 _ rfl
  have v2 : v 2 = (.int .u8 (tag.toNat : Int)) := hv 2 _ rfl
  have v3 : v 3 = (.slice BA body.length bc) := hv 3 _ rfl
  have v6 : v 6 = (.bool true) := hv 6 _ rfl
  clear hv
  simp [Txt.actOf, List.range, List.range.loop, Act.put, v0, v1, v2, v3, v6]
  generalize v 4 = u4 at *
  generalize v 5 = u5 at *
  clear v0 v1 v2 v3 v6
  refine wp_exec (v := .bool true) rfl ?_
  simp [Act.put]
  replace t := Lib.hid (t.out.kept kc)
  replace H := Lib.hid (H.out.kept kc)
  have hm2 := Lib.hid (hbd.out.kept0 t.out.k)
  clear kc B8 B5
  go_wp2_with (first
    | ((with_reducible refine wpl_at 40 ?_); refine wpl_load_row (cs := (bv SG).toArray) (o := ⟨some 40, _, _, _, _, _⟩) Q.sigR rfl (.tmp 5) rfl rfl (t.out.s (g5, 24, (bv SG).toArray) (by simp)) (by simpa using hg.out) ?_)
    | ((with_reducible refine wpl_at 45 ?_); refine wpl_load_row (cs := (bv K).toArray) (o := ⟨some 45, _, _, _, _, _⟩) arrB.row rfl (.tmp 8) rfl rfl (t.out.s (g8, 26, (bv K).toArray) (by simp)) (by simpa using hK.out) ?_)
    | ((with_reducible refine wpl_at 48 ?_); refine wpl_load_row (cs := (bv SG).toArray) (o := ⟨some 48, _, _, _, _, _⟩) Q.sigR rfl (.tmp 5) rfl rfl (t.out.s (g5, 24, (bv SG).toArray) (by simp)) (by simpa using hg.out) ?_)
    | ((with_reducible refine wpl_at 57 ?_); refine wpl_load_row (cs := (bv seed).toArray) (o := ⟨some 57, _, _, _, _, _⟩) arrB.row rfl (.tmp 7) rfl rfl (t.out.s (g7, 26, (bv seed).toArray) (by simp)) (by simpa using hs.out) ?_)
    | (go_at_call 15; (with_reducible refine (o1.out _ _ _ _ _ _ H.out hm2.out).mono ?_); rintro e v41 ⟨rfl, D', h', k'⟩
       obtain ⟨n0, m0⟩ := H.out.map
       replace t := Lib.hid (t.out.keptM m0 k' HB.out)
       replace H := Lib.hid h'
       have hm3 := Lib.hid (hbd.out.kept0 t.out.k)
       clear h' k' m0 hm2)
    | (go_at_call 16; (with_reducible refine (co.out _ hm3.out).mono ?_); rintro e v49 ⟨rfl, kk⟩
       replace t := Lib.hid (t.out.kept kk)
       replace H := Lib.hid (H.out.kept kk)
       have hm4 := Lib.hid (hbd.out.kept0 t.out.k)
       clear kk hm3)
    | (go_at_call 17; (with_reducible refine (ce.out _ _ hm4.out).mono ?_); rintro e v60 ⟨rfl, kk⟩
       replace t := Lib.hid (t.out.kept kk)
       replace H := Lib.hid (H.out.kept kk)
       have hm5 := Lib.hid (hbd.out.kept0 t.out.k)
       clear kk hm4)
    | (go_at_call 15; (with_reducible refine (o2.out _ _ _ _ _ _ H.out hm5.out).mono ?_); rintro e v61 ⟨rfl, D', h', k'⟩
       obtain ⟨n0, m0⟩ := H.out.map
       replace t := Lib.hid (t.out.keptM m0 k' HB.out)
       clear h' k' m0 hm5))
  go_ret
  exact ⟨rfl, t.out.k⟩
set_option maxRecDepth 100000 in
set_option maxHeartbeats 3200000 in
theorem others_false {seed K S SG W body : List UInt8} (tag : UInt8) (hs : seed.length = 32) (hK : K.length = 32) (hS : S.length = 64) (hg : SG.length = 64) (ls : Value.agg #[.int .u8 (tag.toNat : Int), .int .u8 9, .int .u8 0, .int .u8 0, .int .u8 0, .int .u8 0, .int .u8 0, .int .u8 0, .int .u8 0, .int .u8 0, .int .u8 0, .int .u8 0, .int .u8 0, .int .u8 0, .int .u8 0, .int .u8 0, .int .u8 0, .int .u8 0, .int .u8 0, .int .u8 0, .int .u8 0, .int .u8 0, .int .u8 0, .int .u8 0, .int .u8 0, .int .u8 0, .int .u8 0, .int .u8 0, .int .u8 0, .int .u8 0, .int .u8 0, .int .u8 0] = ab seed) (v : Value) (w : World) (hbd : isRd body v w)
    (cp : ∀ u, Calls Try.prog 11 #[ab seed] u fun e w' => e = .returned (ab K) ∧ Kept [] u w')
    (cw : ∀ u, isRd body v u → Calls Try.prog 14 #[.int .u8 (tag.toNat : Int), v] u fun e w' => ∃ v', e = .returned v' ∧ isRd W v' w' ∧ Kept [] u w')
    (cv : ∀ u pv, isP1 W pv u → Calls Try.prog 13 #[ab K, ab SG, pv] u fun e w' => e = .returned (.bool false) ∧ Kept [] u w')
    (co : ∀ u, isRd body v u → Calls Try.prog 16 #[ab K, .int .u8 (tag.toNat : Int), v, ab SG] u fun e w' => e = .returned (.bool false) ∧ Kept [] u w')
    (o1 : OpC K SG body (tag.toNat : Int) false) (ce : SeC seed S body (tag.toNat : Int)) (o2 : OpC K S body (tag.toNat : Int) true) :
    Calls Try.prog 3 #[.int .u8 (tag.toNat : Int), v, ab SG] w fun e w' => e = .returned (.bool true) ∧ Kept [] w w' := by
  have cf := Lib.hid first_any
  have cn := Lib.hid (rnew_one hK)
  obtain ⟨BA, bc, rfl, _⟩ := id hbd
  replace hs := Lib.hid hs
  replace hK := Lib.hid hK
  replace hS := Lib.hid hS
  replace hg := Lib.hid hg
  replace hbd := Lib.hid hbd
  replace cp := Lib.hid cp
  replace cw := Lib.hid cw
  replace cv := Lib.hid cv
  replace co := Lib.hid co
  replace o1 := Lib.hid o1
  replace ce := Lib.hid ce
  replace o2 := Lib.hid o2
  have t := Lib.hid (Pm.none w)
  go_enter Try.func3, Try.ntmps3
  go_wp2_with (first
    | ((with_reducible refine wpl_at 5 ?_); (refine wpl_box (o := ⟨some 5, _, _, _, _, _⟩) (v := ab SG) rfl (.tmp 2) rfl rfl ?_); intro g5 w5 m5
       replace t := Lib.hid ((t.out.kept m5.kept).cons (show Blk w5 g5 24 (bv SG).toArray from m5.blk))
       clear m5)
    | (go_at_call 10; (with_reducible refine (cf.out _).mono ?_); rintro e v6 ⟨rfl, kk⟩; replace t := Lib.hid (t.out.kept kk); clear kk)
    | ((with_reducible refine wpl_at 7 ?_); (refine wpl_new (o := ⟨some 7, _, _, _, _, _⟩) rfl rfl zeroB ?_); intro g7 w7 m7
       refine wpl_store_row (cs := (bv seed).toArray) (o := ⟨none, Op.store 26 (.tmp 7) (.tmp 15), _, _, _, _⟩) arrB.row rfl (.tmp 7) (.tmp 15) rfl rfl rfl m7.blk (by rfl) (by simpa using hs.out) (one_ab _) ?_
       intro wb7 b7 k7
       replace t := Lib.hid (t.out.put m7 b7 k7)
       clear m7 b7 k7)
    | ((with_reducible refine wpl_at 16 ?_); refine wpl_load_row (cs := (bv seed).toArray) (o := ⟨some 16, _, _, _, _, _⟩) arrB.row rfl (.tmp 7) rfl rfl (t.out.s (g7, 26, (bv seed).toArray) (by simp)) (by simpa using hs.out) ?_)
    | (go_at_call 11; (with_reducible refine (cp.out _).mono ?_); rintro e v17 ⟨rfl, kk⟩; replace t := Lib.hid (t.out.kept kk); clear kk)
    | ((with_reducible refine wpl_at 8 ?_); (refine wpl_new (o := ⟨some 8, _, _, _, _, _⟩) rfl rfl zeroB ?_); intro g8 w8 m8
       refine wpl_store_row (cs := (bv K).toArray) (o := ⟨none, Op.store 26 (.tmp 8) (.tmp 17), _, _, _, _⟩) arrB.row rfl (.tmp 8) (.tmp 17) rfl rfl rfl m8.blk (by rfl) (by simpa using hK.out) (one_ab _) ?_
       intro wb8 b8 k8
       replace t := Lib.hid (t.out.put m8 b8 k8)
       clear m8 b8 k8)
    | ((with_reducible refine wpl_at 19 ?_); refine wpl_load_row (cs := (bv K).toArray) (o := ⟨some 19, _, _, _, _, _⟩) arrB.row rfl (.tmp 8) rfl rfl (t.out.s (g8, 26, (bv K).toArray) (by simp)) (by simpa using hK.out) ?_)
    | ((with_reducible refine wpl_at 20 ?_); (refine wpl_bslice1 (o := ⟨some 20, _, _, _, _, _⟩) (v0 := ab K) (cells := (bv K).toArray) rfl keysT rfl rfl (by decide) rfl (by simpa using hK.out) ?_); intro g20 w20 m20
       have R20 := Lib.hid (one_row m20.blk hK.out)
       replace t := Lib.hid (t.out.kept m20.kept)
       clear m20)
    | (go_at_call 12; (with_reducible refine (cn.out _ _ R20.out).mono ?_); rintro e v21 ⟨r, b, kv, rfl, h21, k21, l21⟩
       have HB := Lib.hid (Nat.le_trans t.out.k.size l21)
       replace t := Lib.hid (t.out.kept k21)
       have H := Lib.hid h21
       have B8 := Lib.hid (t.out.s (g8, 26, (bv K).toArray) (by simp))
       have B5 := Lib.hid (t.out.s (g5, 24, (bv SG).toArray) (by simp))
       clear h21 k21 l21 R20))
  refine Txt.wp_lastR (by kernel_rfl) [Txt.isV (ab K), Txt.isV (ab SG), Txt.isV (.int .u8 (tag.toNat : Int)), Txt.isV (.slice BA body.length bc), isRd W, isP1 W, Txt.isV (.bool false)] (fun u => Kept [] v21 u) (by kernel_rfl) rfl rfl (by kernel_rfl) ((Kept.refl [] v21).drew) (fun u u2 h k => h.then0 k) ⟨?_, ?_, ?_, ?_, ?_, ?_, ?_, trivial⟩ ?_
  · exact Txt.askR_load arrB.row rfl rfl (by decide) B8.out (by simpa using hK.out)
  · exact Txt.askR_load Q.sigR rfl rfl (by decide) B5.out (by simpa using hg.out)
  · exact askR_slot (x := 0) rfl (by decide) fun a W hx => exec_mv rfl W hx
  · exact askR_slot (x := 1) rfl (by decide) fun a W hx => exec_mv rfl W hx
  · refine Txt.askR_call rfl enters_rwhat (fun v u u2 h k => isRd.kept0 h k) fun a u hS hr _ => ?_
    have e0 : a.tmps.getD 32 undef = (.int .u8 (tag.toNat : Int)) := hr 2 _ 32 _ rfl rfl rfl ⟨⟨2, .data⟩, by simp, rfl, rfl⟩
    have e1 : a.tmps.getD 33 undef = (.slice BA body.length bc) := hr 3 _ 33 _ rfl rfl rfl ⟨⟨3, .data⟩, by simp, rfl, rfl⟩
    have hm : Array.map a.eval #[.tmp 32, .tmp 33] = #[(.int .u8 (tag.toNat : Int)), (.slice BA body.length bc)] := by simp only [List.map_toArray, List.map_cons, List.map_nil, Act.eval, e0, e1]
    rw [hm]
    refine (cw.out u (hbd.out.kept0 (t.out.k.then0 hS))).mono ?_
    rintro e u2 ⟨v, rfl, hv, hk⟩
    exact ⟨v, rfl, hv, hk⟩
  · exact askR_oneR (x := 34) (i := 4) rfl rfl rfl rfl ⟨⟨4, .data⟩, by simp, rfl, rfl⟩
  · refine Txt.askR_call rfl enters_verify (fun _ _ _ h _ => h) fun a u hS hr _ => ?_
    have e0 : a.tmps.getD 30 undef = (ab K) := hr 0 _ 30 _ rfl rfl rfl ⟨⟨0, .data⟩, by simp, rfl, rfl⟩
    have e1 : a.tmps.getD 31 undef = (ab SG) := hr 1 _ 31 _ rfl rfl rfl ⟨⟨1, .data⟩, by simp, rfl, rfl⟩
    have e2 := hr 5 _ 35 _ rfl rfl rfl ⟨⟨5, .data⟩, by simp, rfl, rfl⟩
    have hm : Array.map a.eval #[.tmp 30, .tmp 31, .tmp 35] = #[(ab K), (ab SG), a.tmps.getD 35 undef] := by simp only [List.map_toArray, List.map_cons, List.map_nil, Act.eval, e0, e1]
    rw [hm]
    refine (cv.out u _ e2).mono ?_
    rintro e u2 ⟨rfl, hk⟩
    exact ⟨_, rfl, rfl, hk⟩
  intro v wc kc hv
  have v0 : v 0 = (ab K) := hv 0 _ rfl
  have v1 : v 1 = (ab SG) := hv 1 _ rfl
  have v2 : v 2 = (.int .u8 (tag.toNat : Int)) := hv 2 _ rfl
  have v3 : v 3 = (.slice BA body.length bc) := hv 3 _ rfl
  have v6 : v 6 = (.bool false) := hv 6 _ rfl
  clear hv
  simp [Txt.actOf, List.range, List.range.loop, Act.put, v0, v1, v2, v3, v6]
  generalize v 4 = u4 at *
  generalize v 5 = u5 at *
  clear v0 v1 v2 v3 v6
  refine wp_exec (v := .bool false) rfl ?_
  simp [Act.put]
  replace t := Lib.hid (t.out.kept kc)
  replace H := Lib.hid (H.out.kept kc)
  have hm2 := Lib.hid (hbd.out.kept0 t.out.k)
  clear kc B8 B5
  go_wp2_with (first
    | ((with_reducible refine wpl_at 40 ?_); refine wpl_load_row (cs := (bv SG).toArray) (o := ⟨some 40, _, _, _, _, _⟩) Q.sigR rfl (.tmp 5) rfl rfl (t.out.s (g5, 24, (bv SG).toArray) (by simp)) (by simpa using hg.out) ?_)
    | ((with_reducible refine wpl_at 45 ?_); refine wpl_load_row (cs := (bv K).toArray) (o := ⟨some 45, _, _, _, _, _⟩) arrB.row rfl (.tmp 8) rfl rfl (t.out.s (g8, 26, (bv K).toArray) (by simp)) (by simpa using hK.out) ?_)
    | ((with_reducible refine wpl_at 48 ?_); refine wpl_load_row (cs := (bv SG).toArray) (o := ⟨some 48, _, _, _, _, _⟩) Q.sigR rfl (.tmp 5) rfl rfl (t.out.s (g5, 24, (bv SG).toArray) (by simp)) (by simpa using hg.out) ?_)
    | ((with_reducible refine wpl_at 57 ?_); refine wpl_load_row (cs := (bv seed).toArray) (o := ⟨some 57, _, _, _, _, _⟩) arrB.row rfl (.tmp 7) rfl rfl (t.out.s (g7, 26, (bv seed).toArray) (by simp)) (by simpa using hs.out) ?_)
    | (go_at_call 15; (with_reducible refine (o1.out _ _ _ _ _ _ H.out hm2.out).mono ?_); rintro e v41 ⟨rfl, D', h', k'⟩
       obtain ⟨n0, m0⟩ := H.out.map
       replace t := Lib.hid (t.out.keptM m0 k' HB.out)
       replace H := Lib.hid h'
       have hm3 := Lib.hid (hbd.out.kept0 t.out.k)
       clear h' k' m0 hm2)
    | (go_at_call 16; (with_reducible refine (co.out _ hm3.out).mono ?_); rintro e v49 ⟨rfl, kk⟩
       replace t := Lib.hid (t.out.kept kk)
       replace H := Lib.hid (H.out.kept kk)
       have hm4 := Lib.hid (hbd.out.kept0 t.out.k)
       clear kk hm3)
    | (go_at_call 17; (with_reducible refine (ce.out _ _ hm4.out).mono ?_); rintro e v60 ⟨rfl, kk⟩
       replace t := Lib.hid (t.out.kept kk)
       replace H := Lib.hid (H.out.kept kk)
       have hm5 := Lib.hid (hbd.out.kept0 t.out.k)
       clear kk hm4)
    | (go_at_call 15; (with_reducible refine (o2.out _ _ _ _ _ _ H.out hm5.out).mono ?_); rintro e v61 ⟨rfl, D', h', k'⟩
       obtain ⟨n0, m0⟩ := H.out.map
       replace t := Lib.hid (t.out.keptM m0 k' HB.out)
       clear h' k' m0 hm5))
  go_ret
  exact ⟨rfl, t.out.k⟩
theorem others_walk (a : Int) (v : Value) (body SG : List UInt8) (w : World) (ha : (Lit.int .u8 a).wf = true) (rd : Rd w 1 v body.length (bv body)) (bz : body.length ≤ 140737488351232) (hg : SG.length = 64) :
    Calls Try.prog 3 #[.int .u8 a, v, ab SG] w fun e w' => e = .returned (.bool true) ∧ Kept [] w w' := by
  obtain ⟨tag, rfl⟩ : ∃ tag : UInt8, a = (tag.toNat : Int) := by
    have h : IntKind.u8.min ≤ a ∧ a ≤ IntKind.u8.max := by simpa [Lit.wf] using ha
    have e0 : IntKind.u8.min = 0 := rfl
    have e1 : IntKind.u8.max = 255 := rfl
    rw [e0, e1] at h
    exact ⟨UInt8.ofNat a.toNat, by rw [UInt8.toNat_ofNat_of_lt' (by show a.toNat < 256; omega)]; omega⟩
  obtain ⟨seed, hse⟩ : ∃ s : List UInt8, s = tag :: 9 :: noughts 30 := ⟨_, rfl⟩
  have hs : seed.length = 32 := by rw [hse]; rfl
  have ls : Value.agg #[.int .u8 (tag.toNat : Int), .int .u8 9, .int .u8 0, .int .u8 0, .int .u8 0, .int .u8 0, .int .u8 0, .int .u8 0, .int .u8 0, .int .u8 0, .int .u8 0, .int .u8 0, .int .u8 0, .int .u8 0, .int .u8 0, .int .u8 0, .int .u8 0, .int .u8 0, .int .u8 0, .int .u8 0, .int .u8 0, .int .u8 0, .int .u8 0, .int .u8 0, .int .u8 0, .int .u8 0, .int .u8 0, .int .u8 0, .int .u8 0, .int .u8 0, .int .u8 0, .int .u8 0] = ab seed := by rw [hse]; kernel_rfl
  have hK := encS_len (numS seed)
  have hS := sig_len seed (whatB tag body)
  have hw := what_len tag body
  have ce : SeC seed (signB seed (whatB tag body)) body (tag.toNat : Int) := fun u v h => seal_any tag hs v body u h bz
  have o2 : OpC (encS (numS seed)) (signB seed (whatB tag body)) body (tag.toNat : Int) true := open_c tag _ rfl hS bz (sign_ok _ _)
  have o1 := open_c (K := encS (numS seed)) (body := body) tag _ rfl hg bz rfl
  have co := fun u h => owned_any (key := encS (numS seed)) tag hK hg v body u h bz
  have cv : ∀ u pv, isP1 (whatB tag body) pv u → Calls Try.prog 13 #[ab (encS (numS seed)), ab SG, pv] u fun e w' => e = .returned (.bool (okV (encS (numS seed)) SG (whatB tag body))) ∧ Kept [] u w' := by
    rintro u pv ⟨p, hp⟩
    exact verify_any _ SG hK hg pv _ _ u hp (joined_1 _ _) (by simp) (by rw [hw]; omega)
  generalize okV (encS (numS seed)) SG (whatB tag body) = ok at *
  cases ok with
  | true => exact others_true tag hs hK hS hg ls v w rd (fun u => public_any _ hs u) (fun u h => rwhat_c tag v body u h bz) cv co o1 ce o2
  | false => exact others_false tag hs hK hS hg ls v w rd (fun u => public_any _ hs u) (fun u h => rwhat_c tag v body u h bz) cv co o1 ce o2
end Go.Proofs.Ytdbngnlpafcogaa
