/-
  The ring: Owned, Seal.
-/
import Derived.Test.YtdbngnlpafcogaaRg1
namespace Go.Proofs.Ytdbngnlpafcogaa
open Go.RowKit Go.Mem Go.Txt

theorem enters_what (xs : Array Value) (w : World) : (callFunc 51 xs).run Try.prog w = .ok (.enter 51 xs) w := enters_of (c := _) Try.func51 (by kernel_rfl) rfl xs w
theorem enters_verify (xs : Array Value) (w : World) : (callFunc 13 xs).run Try.prog w = .ok (.enter 13 xs) w := enters_of (c := _) Try.func13 (by kernel_rfl) rfl xs w
theorem enters_sign (xs : Array Value) (w : World) : (callFunc 52 xs).run Try.prog w = .ok (.enter 52 xs) w := enters_of (c := _) Try.func52 (by kernel_rfl) rfl xs w
theorem enters_public (xs : Array Value) (w : World) : (callFunc 11 xs).run Try.prog w = .ok (.enter 11 xs) w := enters_of (c := _) Try.func11 (by kernel_rfl) rfl xs w
theorem enters_owned (xs : Array Value) (w : World) : (callFunc 16 xs).run Try.prog w = .ok (.enter 16 xs) w := enters_of (c := _) Try.func16 (by kernel_rfl) rfl xs w
theorem enters_seal (xs : Array Value) (w : World) : (callFunc 17 xs).run Try.prog w = .ok (.enter 17 xs) w := enters_of (c := _) Try.func17 (by kernel_rfl) rfl xs w
/-- Bytes that are read; a row of one part. -/
def isRd (bs : List UInt8) : Rel := fun v w => Rd w 1 v bs.length (bv bs)
theorem isRd.kept0 {bs : List UInt8} {v : Value} {w w' : World} (h : isRd bs v w) (k : Kept [] w w') : isRd bs v w' := Rd.kept0 h k
def isP1 (m : List UInt8) : Rel := fun v w => ∃ p, Parts w v [(p, m)]
theorem isP1.kept0 {m : List UInt8} {v : Value} {w w' : World} (h : isP1 m v w) (k : Kept [] w w') : isP1 m v w' := let ⟨p, hp⟩ := h; ⟨p, Parts.kept0 hp k⟩
theorem New.rd {w w' : World} {v : Value} {l : List UInt8} (h : New w w' v l) : isRd l v w' := Rd.of_ow h.ow
section
variable {l : List Oper} {vs : List Rel} {a0 : Act} {w0 : World} {o : Oper}
/-- A literal of one part that another operation gave. -/
theorem askR_oneR {x i : Nat} {m : List UInt8} {oi : Oper} (ho : o.op = .buildSlice 94 1 #[(0, .tmp x)])
    (hi : vs[i]? = some (isRd m)) (hl : l[i]? = some oi) (hd : oi.dst = some x) (hb : bindsTo o i) : AskedR Try.prog l vs (fun u => Kept [] w0 u) a0 o (isP1 m) := by
  refine ⟨fun _ _ _ h hk => isP1.kept0 h hk, fun a w C R hS hr _ h => ?_⟩
  have e : isRd m (a.tmps.getD x undef) w := hr i _ x oi hi hl hd hb
  generalize hv1 : a.tmps.getD x undef = v1 at e
  obtain ⟨A, c, e1, _⟩ := id e
  have c0 : v1.cells = #[v1] := by rw [e1]; rfl
  obtain ⟨q, hq, hz, hs, hb⟩ := info_parts slicesT.2
  have hv : (#[(0, Operand.tmp x)].map fun (p : Nat × Operand) => (p.1, a.eval p.2)).toList = [(0, v1)] := by simp [Act.eval, ← hv1]
  have hf : Instr.fill (fun i => some (i * 1, 1)) ((Array.range (1 * 1)).map ((Value.slice none 0 0).cells[· % (Value.slice none 0 0).cells.size]!)) [(0, v1)] = some #[v1] := by
    have hr : ∀ f : Nat → Value, (Array.range (1 * 1)).map f = #[f 0] := fun f => Array.toList_inj.1 (by rw [Array.toList_map, Array.toList_range]; rfl)
    rw [hr]
    simp [Instr.fill, c0]
  have kk : Kept [] w (w.alloc (.cells #[v1] 23)) := (Kept.refl [] w).alloc _
  exact wp_buildSlice _ _ 1 _ ho #[v1] q _ slicesT.1 hq hz (by rw [hs]; omega) (by rw [hs]; omega) (by rw [hs]; exact (congrArg (Instr.fill _ _) hv).trans hf) (h _ _ kk ⟨v1, parts1 (Blk.new w _ _) (Rd.kept0 e kk)⟩)
end
theorem what_len (tag : UInt8) (body : List UInt8) : (whatB tag body).length = body.length + 14 := by
  unfold whatB form
  rw [List.length_append, List.length_append, be8_len]
  simp; omega
theorem what_c (tag : UInt8) (v : Value) (body : List UInt8) (u : World) (h : isRd body v u) (hb : body.length ≤ 140737488351232) : Calls Try.prog 51 #[.int .u8 (tag.toNat : Int), v] u fun e w' => ∃ v', e = .returned v' ∧ isRd (whatB tag body) v' w' ∧ Kept [] u w' := by
  refine (what_any tag v body u h hb).mono ?_
  rintro e w' ⟨v', rfl, hn⟩
  exact ⟨v', rfl, hn.rd, hn.kept⟩
theorem joined_1 (p : Value) (m : List UInt8) : joined [(p, m)] = m := by simp [joined, bytesOf]
set_option maxRecDepth 100000 in
set_option maxHeartbeats 3200000 in
theorem owned_walk {key SG W : List UInt8} {ok : Bool} (tag : UInt8) (hk : key.length = 32) (hg : SG.length = 64) (v : Value) (body : List UInt8) (w : World) (hb : isRd body v w)
    (cw : ∀ u, isRd body v u → Calls Try.prog 51 #[.int .u8 (tag.toNat : Int), v] u fun e w' => ∃ v', e = .returned v' ∧ isRd W v' w' ∧ Kept [] u w')
    (cv : ∀ u pv, isP1 W pv u → Calls Try.prog 13 #[ab key, ab SG, pv] u fun e w' => e = .returned (.bool ok) ∧ Kept [] u w') :
    Calls Try.prog 16 #[ab key, .int .u8 (tag.toNat : Int), v, ab SG] w fun e w' => e = .returned (.bool ok) ∧ Kept [] w w' := by
  obtain ⟨BA, bc, rfl, _⟩ := id hb
  replace hk := Lib.hid hk
  replace hg := Lib.hid hg
  replace hb := Lib.hid hb
  replace cw := Lib.hid cw
  replace cv := Lib.hid cv
  go_enter Try.func16, Try.ntmps16
  go_wp2_with (first
    | ((with_reducible refine wpl_at 4 ?_); (refine wpl_box (o := ⟨some 4, _, _, _, _, _⟩) (v := ab key) rfl (.tmp 0) rfl rfl ?_); intro g4 w4 m4; have B4 := Lib.hid (show Blk w4 g4 26 (bv key).toArray from m4.blk); have KK := Lib.hid m4.kept; clear m4)
    | ((with_reducible refine wpl_at 7 ?_); (refine wpl_box (o := ⟨some 7, _, _, _, _, _⟩) (v := ab SG) rfl (.tmp 3) rfl rfl ?_); intro g7 w7 m7; have B7 := Lib.hid (show Blk w7 g7 24 (bv SG).toArray from m7.blk); replace B4 := Lib.hid (B4.out.kept m7.kept (by simp)); replace KK := Lib.hid (KK.out.then0 m7.kept); clear m7))
  refine Txt.wp_lastR (by kernel_rfl) [Txt.isV (ab key), Txt.isV (ab SG), Txt.isV (.int .u8 (tag.toNat : Int)), Txt.isV (.slice BA body.length bc), isRd W, isP1 W, Txt.isV (.bool ok)] (fun u => Kept [] w7 u) (by kernel_rfl) rfl rfl (by kernel_rfl) ((Kept.refl [] w7).drew) (fun u u2 h k => h.then0 k) ⟨?_, ?_, ?_, ?_, ?_, ?_, ?_, trivial⟩ ?_
  · exact Txt.askR_load arrB.row rfl rfl (by decide) B4.out (by simpa using hk.out)
  · exact Txt.askR_load Q.sigR rfl rfl (by decide) B7.out (by simpa using hg.out)
  · exact askR_slot (x := 1) rfl (by decide) fun a W hx => exec_mv rfl W hx
  · exact askR_slot (x := 2) rfl (by decide) fun a W hx => exec_mv rfl W hx
  · refine Txt.askR_call rfl enters_what (fun v u u2 h k => isRd.kept0 h k) fun a u hS hr _ => ?_
    have e0 : a.tmps.getD 11 undef = (.int .u8 (tag.toNat : Int)) := hr 2 _ 11 _ rfl rfl rfl ⟨⟨2, .data⟩, by simp, rfl, rfl⟩
    have e1 : a.tmps.getD 12 undef = (.slice BA body.length bc) := hr 3 _ 12 _ rfl rfl rfl ⟨⟨3, .data⟩, by simp, rfl, rfl⟩
    have hm : Array.map a.eval #[.tmp 11, .tmp 12] = #[(.int .u8 (tag.toNat : Int)), (.slice BA body.length bc)] := by simp only [List.map_toArray, List.map_cons, List.map_nil, Act.eval, e0, e1]
    rw [hm]
    refine (cw.out u (hb.out.kept0 (KK.out.then0 hS))).mono ?_
    rintro e u2 ⟨v, rfl, hv, hk⟩
    exact ⟨v, rfl, hv, hk⟩
  · exact askR_oneR (x := 13) (i := 4) rfl rfl rfl rfl ⟨⟨4, .data⟩, by simp, rfl, rfl⟩
  · refine Txt.askR_call rfl enters_verify (fun _ _ _ h _ => h) fun a u hS hr _ => ?_
    have e0 : a.tmps.getD 9 undef = (ab key) := hr 0 _ 9 _ rfl rfl rfl ⟨⟨0, .data⟩, by simp, rfl, rfl⟩
    have e1 : a.tmps.getD 10 undef = (ab SG) := hr 1 _ 10 _ rfl rfl rfl ⟨⟨1, .data⟩, by simp, rfl, rfl⟩
    have e2 := hr 5 _ 14 _ rfl rfl rfl ⟨⟨5, .data⟩, by simp, rfl, rfl⟩
    have hm : Array.map a.eval #[.tmp 9, .tmp 10, .tmp 14] = #[(ab key), (ab SG), a.tmps.getD 14 undef] := by simp only [List.map_toArray, List.map_cons, List.map_nil, Act.eval, e0, e1]
    rw [hm]
    refine (cv.out u _ e2).mono ?_
    rintro e u2 ⟨rfl, hk⟩
    exact ⟨_, rfl, rfl, hk⟩
  intro v wc kc hv
  have v0 : v 0 = (ab key) := hv 0 _ rfl
  have v1 : v 1 = (ab SG) := hv 1 _ rfl
  have v2 : v 2 = (.int .u8 (tag.toNat : Int)) := hv 2 _ rfl
  have v3 : v 3 = (.slice BA body.length bc) := hv 3 _ rfl
  have v6 : v 6 = (.bool ok) := hv 6 _ rfl
  clear hv
  simp [Txt.actOf, List.range, List.range.loop, Act.put, v0, v1, v2, v3, v6]
  generalize v 4 = u4 at *
  generalize v 5 = u5 at *
  clear v0 v1 v2 v3 v6
  refine wp_exec (v := .bool ok) rfl ?_
  simp [Act.put]
  replace KK := Lib.hid (KK.out.then0 kc)
  clear kc
  go_wp2_with fail
  go_ret
  exact ⟨rfl, KK.out⟩
theorem owned_any {key SG : List UInt8} (tag : UInt8) (hk : key.length = 32) (hg : SG.length = 64) (v : Value) (body : List UInt8) (w : World) (hb : isRd body v w) (hl : body.length ≤ 140737488351232) :
    Calls Try.prog 16 #[ab key, .int .u8 (tag.toNat : Int), v, ab SG] w fun e w' => e = .returned (.bool (okV key SG (whatB tag body))) ∧ Kept [] w w' := by
  refine owned_walk tag hk hg v body w hb (fun u h => what_c tag v body u h hl) ?_
  rintro u pv ⟨p, hp⟩
  exact verify_any key SG hk hg pv _ _ u hp (joined_1 _ _) (by simp) (by rw [what_len]; omega)
set_option maxRecDepth 100000 in
set_option maxHeartbeats 3200000 in
theorem seal_walk {seed S W : List UInt8} (tag : UInt8) (hk : seed.length = 32) (hS : S.length = 64) (v : Value) (body : List UInt8) (w : World) (hb : isRd body v w)
    (cw : ∀ u, isRd body v u → Calls Try.prog 51 #[.int .u8 (tag.toNat : Int), v] u fun e w' => ∃ v', e = .returned v' ∧ isRd W v' w' ∧ Kept [] u w')
    (cs : ∀ u pv, isP1 W pv u → Calls Try.prog 52 #[ab seed, pv] u fun e w' => e = .returned (ab S) ∧ Kept [] u w') :
    Calls Try.prog 17 #[ab seed, .int .u8 (tag.toNat : Int), v] w fun e w' => e = .returned (ab S) ∧ Kept [] w w' := by
  obtain ⟨BA, bc, rfl, _⟩ := id hb
  replace hk := Lib.hid hk
  replace hS := Lib.hid hS
  replace hb := Lib.hid hb
  replace cw := Lib.hid cw
  replace cs := Lib.hid cs
  go_enter Try.func17, Try.ntmps17
  go_wp2_with (first
    | ((with_reducible refine wpl_at 3 ?_); (refine wpl_box (o := ⟨some 3, _, _, _, _, _⟩) (v := ab seed) rfl (.tmp 0) rfl rfl ?_); intro g3 w3 m3; have B3 := Lib.hid (show Blk w3 g3 26 (bv seed).toArray from m3.blk); have KK := Lib.hid m3.kept; clear m3)
    | ((with_reducible refine wpl_at 6 ?_); (refine wpl_new (o := ⟨some 6, _, _, _, _, _⟩) rfl rfl zero64 ?_); intro g6 w6 m6; have B6 := Lib.hid m6.blk; have L6 := Lib.hid (Nat.le_trans KK.out.size m6.le); replace B3 := Lib.hid (B3.out.kept m6.kept (by simp)); replace KK := Lib.hid (KK.out.then0 m6.kept); clear m6))
  refine Txt.wp_lastR (by kernel_rfl) [Txt.isV (ab seed), Txt.isV (.int .u8 (tag.toNat : Int)), Txt.isV (.slice BA body.length bc), isRd W, isP1 W, Txt.isV (ab S)] (fun u => Kept [] w6 u) (by kernel_rfl) rfl rfl (by kernel_rfl) ((Kept.refl [] w6).drew) (fun u u2 h k => h.then0 k) ⟨?_, ?_, ?_, ?_, ?_, ?_, trivial⟩ ?_
  · exact Txt.askR_load arrB.row rfl rfl (by decide) B3.out (by simpa using hk.out)
  · exact askR_slot (x := 1) rfl (by decide) fun a W hx => exec_mv rfl W hx
  · exact askR_slot (x := 2) rfl (by decide) fun a W hx => exec_mv rfl W hx
  · refine Txt.askR_call rfl enters_what (fun v u u2 h k => isRd.kept0 h k) fun a u hS hr _ => ?_
    have e0 : a.tmps.getD 8 undef = (.int .u8 (tag.toNat : Int)) := hr 1 _ 8 _ rfl rfl rfl ⟨⟨1, .data⟩, by simp, rfl, rfl⟩
    have e1 : a.tmps.getD 9 undef = (.slice BA body.length bc) := hr 2 _ 9 _ rfl rfl rfl ⟨⟨2, .data⟩, by simp, rfl, rfl⟩
    have hm : Array.map a.eval #[.tmp 8, .tmp 9] = #[(.int .u8 (tag.toNat : Int)), (.slice BA body.length bc)] := by simp only [List.map_toArray, List.map_cons, List.map_nil, Act.eval, e0, e1]
    rw [hm]
    refine (cw.out u (hb.out.kept0 (KK.out.then0 hS))).mono ?_
    rintro e u2 ⟨v, rfl, hv, hk⟩
    exact ⟨v, rfl, hv, hk⟩
  · exact askR_oneR (x := 10) (i := 3) rfl rfl rfl rfl ⟨⟨3, .data⟩, by simp, rfl, rfl⟩
  · refine Txt.askR_call rfl enters_sign (fun _ _ _ h _ => h) fun a u hS hr _ => ?_
    have e0 : a.tmps.getD 7 undef = (ab seed) := hr 0 _ 7 _ rfl rfl rfl ⟨⟨0, .data⟩, by simp, rfl, rfl⟩
    have e1 := hr 4 _ 11 _ rfl rfl rfl ⟨⟨4, .data⟩, by simp, rfl, rfl⟩
    have hm : Array.map a.eval #[.tmp 7, .tmp 11] = #[(ab seed), a.tmps.getD 11 undef] := by simp only [List.map_toArray, List.map_cons, List.map_nil, Act.eval, e0]
    rw [hm]
    refine (cs.out u _ e1).mono ?_
    rintro e u2 ⟨rfl, hk⟩
    exact ⟨_, rfl, rfl, hk⟩
  intro v wc kc hv
  have v0 : v 0 = (ab seed) := hv 0 _ rfl
  have v1 : v 1 = (.int .u8 (tag.toNat : Int)) := hv 1 _ rfl
  have v2 : v 2 = (.slice BA body.length bc) := hv 2 _ rfl
  have v5 : v 5 = (ab S) := hv 5 _ rfl
  clear hv
  simp [Txt.actOf, List.range, List.range.loop, Act.put, v0, v1, v2, v5]
  generalize v 3 = u3 at *
  generalize v 4 = u4 at *
  clear v0 v1 v2 v5
  refine Txt.wp_put Q.sigR rfl rfl rfl (B6.out.kept kc (by simp)) (by rfl) (by simpa using hS.out) (one_ab _) ?_
  intro wd b9 k9
  simp [Act.put]
  replace KK := Lib.hid ((KK.out.then0 kc).then1 k9 L6.out)
  clear B3 B6 kc
  go_wp2_with fail
  exact ret_row Q.sigR rfl rfl b9 (by simpa using hS.out) rfl ⟨rfl, KK.out⟩
theorem seal_any {seed : List UInt8} (tag : UInt8) (hk : seed.length = 32) (v : Value) (body : List UInt8) (w : World) (hb : isRd body v w) (hl : body.length ≤ 140737488351232) :
    Calls Try.prog 17 #[ab seed, .int .u8 (tag.toNat : Int), v] w fun e w' => e = .returned (ab (signB seed (whatB tag body))) ∧ Kept [] w w' := by
  refine seal_walk tag hk (sig_len _ _) v body w hb (fun u h => what_c tag v body u h hl) ?_
  rintro u pv ⟨p, hp⟩
  exact sign_any seed hk pv _ _ u hp (joined_1 _ _) (by simp) (by rw [what_len]; omega)
end Go.Proofs.Ytdbngnlpafcogaa
