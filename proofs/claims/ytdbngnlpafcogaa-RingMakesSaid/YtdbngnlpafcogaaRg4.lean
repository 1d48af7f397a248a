/-
  The ring: Open.
-/
import Derived.Test.YtdbngnlpafcogaaRg3
namespace Go.Proofs.Ytdbngnlpafcogaa
open Go.RowKit Go.Mem Go.Txt

theorem keysT : SliceT Try.prog 38 26 32 32 (ab (noughts 32)) := ⟨Try.underlying38, by kernel_rfl, rfl, by omega⟩
theorem zeroI (w : World) : (zeroValue 3).run Try.prog w = .ok (.int .i64 0) w := by kernel_rfl
theorem parts3 {w : World} {g : Nat} {t : TypeId} {v1 v2 v3 : Value} {x1 x2 x3 : List UInt8} (hb : Blk w g t #[v1, v2, v3]) (h1 : isRd x1 v1 w) (h2 : isRd x2 v2 w) (h3 : isRd x3 v3 w) : Parts w (.slice (some ⟨g, 0, none⟩) 3 3) [(v1, x1), (v2, x2), (v3, x3)] := by
  refine ⟨⟨_, _, rfl, rfl, Nat.le_refl _, fun _ => ⟨g, 0, rfl, fun j u hu => by rw [hb.cell, Nat.zero_add]; simpa using hu⟩⟩, fun p hp => ?_⟩
  simp only [List.mem_cons, List.not_mem_nil, or_false] at hp
  rcases hp with rfl | rfl | rfl
  · exact h1
  · exact h2
  · exact h3
theorem split_at {keys : List (List UInt8)} {i : Nat} (h : i < keys.length) (hk : ∀ k ∈ keys, k.length = 32) : ∃ pre post, keys.flatMap bv = pre ++ (bv (keys.getD i []) ++ post) ∧ pre.length = i * 32 := by
  have e : keys = keys.take i ++ (keys[i] :: keys.drop (i + 1)) := by rw [List.getElem_cons_drop]; exact (List.take_append_drop i keys).symm
  have hg : keys.getD i [] = keys[i] := by simp [List.getD_eq_getElem?_getD, h]
  refine ⟨(keys.take i).flatMap bv, (keys.drop (i + 1)).flatMap bv, ?_, ?_⟩
  · conv => lhs; rw [e]
    rw [List.flatMap_append, List.flatMap_cons, hg]
  · rw [flat_len (fun k hm => hk k (List.mem_of_mem_take hm)), List.length_take, Nat.min_eq_left (by omega)]
theorem oM.lt {w : World} {b n : Nat} {D : DU} (m : oM w b n D) : b < w.heap.size := World.ownsMap.lt m
theorem isMap_put {D : DU} {k : Lit} {d : DU} (h : Maps.IsMap D) : Maps.IsMap (D.put k d) := by
  obtain ⟨es, rfl⟩ := h
  exact ⟨_, rfl⟩
/-- The key of what was asked. -/
def keyB (i : Nat) (tag : UInt8) (SG body : List UInt8) : List UInt8 := UInt8.ofNat i :: tag :: (SG ++ body)
set_option maxRecDepth 100000 in
set_option maxHeartbeats 3200000 in
theorem open_hit1 {w : World} {r b : Nat} {kv : Value} {keys : List (List UInt8)} {D : DU} {i : Nat} {tag : UInt8} {SG body : List UInt8} (h : Rg w r kv keys b D) (hi : i < keys.length) (hg : SG.length = 64) (mv : Value) (hm : isRd body mv w) (hml : body.length ≤ 140737488351232) (hat : atM D (keyB i tag SG body) = .lit (.int .i64 1)) :
    Calls Try.prog 15 #[.pointer (some ⟨r, 0, none⟩), .int .i64 (i : Int), .int .u8 (tag.toNat : Int), mv, ab SG] w fun e w' => e = .returned (.bool true) ∧ Kept [] w w' := by
  obtain ⟨KA, kc, e0, _⟩ := h.rows
  subst e0
  obtain ⟨BA, bc, e1, _⟩ := id hm
  subst e1
  have hlt7 := h.few
  obtain ⟨n, mp⟩ := h.map
  have H := Lib.hid h
  have hx0 : ¬ ((i : Int) < 0) := by omega
  have hx1 : ¬ ((keys.length : Int) ≤ (i : Int)) := by omega
  have hi8 : IntKind.u8.wrap (i : Int) = ((UInt8.ofNat i).toNat : Int) := by
    rw [UInt8.toNat_ofNat_of_lt' (by show i < 256; omega), IntKind.wrap_u8]
    omega
  have hKl := Lib.hid (show (keyB i tag SG body).length = 66 + body.length by unfold keyB; simp [hg]; omega)
  have hkey := Go.WideMaps.keyOf_string_mk Try.underlying9 (s := mkS (keyB i tag SG body)) (by show (keyB i tag SG body).length ≤ maxLen; rw [hKl.out]; simp only [maxLen]; omega)
  have hkd : (mkS (keyB i tag SG body)).data.toList = keyB i tag SG body := by simp [mkS]
  rw [hkd] at hkey
  replace hkey := Lib.hid hkey
  have hjo := Lib.hid (show ∀ v1 v2 v3 : Value, joined [(v1, [UInt8.ofNat i, tag]), (v2, SG), (v3, body)] = keyB i tag SG body from fun _ _ _ => by simp [joined, bytesOf, keyB])
  generalize hK : keyB i tag SG body = K at *
  replace hK := Lib.hid hK
  replace hat := Lib.hid hat
  have hm := Lib.hid hm
  have hg := Lib.hid hg
  have hi := Lib.hid hi
  have hml := Lib.hid hml
  have KK := Lib.hid (Kept.refl [] w)
  clear h hkd
  go_enter Try.func15, Try.ntmps15
  go_wp2_with (first
    | ((with_reducible refine wpl_at 9 ?_); (refine wpl_box (o := ⟨some 9, _, _, _, _, _⟩) (v := ab SG) rfl (.tmp 4) rfl rfl ?_); intro g9 w9 m9; have B9 := Lib.hid (show Blk w9 g9 24 (bv SG).toArray from m9.blk); replace KK := Lib.hid (KK.out.then0 m9.kept); replace H := Lib.hid (H.out.kept m9.kept); clear m9)
    | (go_at_call 19; (with_reducible refine (size_any H.out).mono ?_); rintro e v ⟨rfl, rfl⟩)
    | ((with_reducible refine wpl_at 25 ?_); (refine wpl_bslice2o (o := ⟨some 25, _, _, _, _, _⟩) (v0 := .int .u8 ((UInt8.ofNat i).toNat : Int)) (v1 := .int .u8 (tag.toNat : Int)) rfl bytesT rfl rfl rfl rfl rfl ?_); intro g25 w25 m25
       have R25 := Lib.hid (show isRd [UInt8.ofNat i, tag] (.slice (some ⟨g25, 0, none⟩) 2 2) w25 from Blk.rd (cs := bv [UInt8.ofNat i, tag]) m25.blk rfl (Nat.le_refl _))
       replace KK := Lib.hid (KK.out.then0 m25.kept)
       replace H := Lib.hid (H.out.kept m25.kept)
       replace B9 := Lib.hid (B9.out.kept m25.kept (by simp))
       clear m25)
    | ((with_reducible refine wpl_at 28 ?_); (refine wpl_bslice3 (o := ⟨some 28, _, _, _, _, _⟩) (v0 := .slice (some ⟨g25, 0, none⟩) 2 2) (v1 := .slice (some ⟨g9, 0, none⟩) 64 64) (v2 := .slice BA body.length bc) rfl slicesT rfl rfl rfl rfl rfl rfl rfl ?_); intro gp wp mp
       have PP := Lib.hid (parts3 mp.blk (R25.out.kept0 mp.kept) (show isRd SG _ wp from by unfold isRd; rw [hg.out]; exact Blk.rd (B9.out.kept mp.kept (by simp)) (by simp [hg.out]) (Nat.le_refl _)) ((hm.out.kept0 KK.out).kept0 mp.kept))
       replace KK := Lib.hid (KK.out.then0 mp.kept)
       replace H := Lib.hid (H.out.kept mp.kept)
       replace B9 := Lib.hid (B9.out.kept mp.kept (by simp))
       clear mp R25)
    | (go_at_call 50; (with_reducible refine (wjoin_any _ _ _ PP.out (by simp) (by rw [hjo.out, hKl.out]; have := hml.out; omega)).mono ?_); rintro e v29 ⟨x29, rfl, hn⟩
       rw [hjo.out] at hn
       have R29 := Lib.hid hn.rd
       replace KK := Lib.hid (KK.out.then0 hn.kept)
       replace H := Lib.hid (H.out.kept hn.kept)
       replace B9 := Lib.hid (B9.out.kept hn.kept (by simp))
       have q1 : v29.cell? ⟨r, 1, none⟩ = some (.map (some b)) := by rw [H.out.blk.cell]; rfl
       have q0 : v29.cell? ⟨r, 0, none⟩ = some (.slice KA keys.length kc) := by rw [H.out.blk.cell]; rfl
       clear hn PP)
    | ((with_reducible refine wpl_at 30 ?_); refine wpl_toS (o := ⟨some 30, _, _, _, _, _⟩) Try.underlying23 Try.underlying5 Try.underlying9 rfl (.tmp 29) rfl rfl R29.out ?_)
    | (at_lookup; refine wpList_lookup_own_int _ rfl _ _ _ rfl 9 3 .i64 sk Try.underlying91 Try.underlying3 (zeroI _) b n D rfl (mp.kept KK.out (by simp)) (.string (mkS K)) (.string K) rfl hkey.out ?_
       intro c' hc' _
       obtain rfl : c' = 1 := by
         have := hat.out
         unfold atM at this
         rw [hc'] at this
         injection this with this
         injection this
       clear hc'))
  go_ret
  exact ⟨rfl, KK.out⟩
set_option maxRecDepth 100000 in
set_option maxHeartbeats 3200000 in
theorem open_hit2 {w : World} {r b : Nat} {kv : Value} {keys : List (List UInt8)} {D : DU} {i : Nat} {tag : UInt8} {SG body : List UInt8} (h : Rg w r kv keys b D) (hi : i < keys.length) (hg : SG.length = 64) (mv : Value) (hm : isRd body mv w) (hml : body.length ≤ 140737488351232) (hat : atM D (keyB i tag SG body) = .lit (.int .i64 2)) :
    Calls Try.prog 15 #[.pointer (some ⟨r, 0, none⟩), .int .i64 (i : Int), .int .u8 (tag.toNat : Int), mv, ab SG] w fun e w' => e = .returned (.bool false) ∧ Kept [] w w' := by
  obtain ⟨KA, kc, e0, _⟩ := h.rows
  subst e0
  obtain ⟨BA, bc, e1, _⟩ := id hm
  subst e1
  have hlt7 := h.few
  obtain ⟨n, mp⟩ := h.map
  have H := Lib.hid h
  have hx0 : ¬ ((i : Int) < 0) := by omega
  have hx1 : ¬ ((keys.length : Int) ≤ (i : Int)) := by omega
  have hi8 : IntKind.u8.wrap (i : Int) = ((UInt8.ofNat i).toNat : Int) := by
    rw [UInt8.toNat_ofNat_of_lt' (by show i < 256; omega), IntKind.wrap_u8]
    omega
  have hKl := Lib.hid (show (keyB i tag SG body).length = 66 + body.length by unfold keyB; simp [hg]; omega)
  have hkey := Go.WideMaps.keyOf_string_mk Try.underlying9 (s := mkS (keyB i tag SG body)) (by show (keyB i tag SG body).length ≤ maxLen; rw [hKl.out]; simp only [maxLen]; omega)
  have hkd : (mkS (keyB i tag SG body)).data.toList = keyB i tag SG body := by simp [mkS]
  rw [hkd] at hkey
  replace hkey := Lib.hid hkey
  have hjo := Lib.hid (show ∀ v1 v2 v3 : Value, joined [(v1, [UInt8.ofNat i, tag]), (v2, SG), (v3, body)] = keyB i tag SG body from fun _ _ _ => by simp [joined, bytesOf, keyB])
  generalize hK : keyB i tag SG body = K at *
  replace hK := Lib.hid hK
  replace hat := Lib.hid hat
  have hm := Lib.hid hm
  have hg := Lib.hid hg
  have hi := Lib.hid hi
  have hml := Lib.hid hml
  have KK := Lib.hid (Kept.refl [] w)
  clear h hkd
  go_enter Try.func15, Try.ntmps15
  go_wp2_with (first
    | ((with_reducible refine wpl_at 9 ?_); (refine wpl_box (o := ⟨some 9, _, _, _, _, _⟩) (v := ab SG) rfl (.tmp 4) rfl rfl ?_); intro g9 w9 m9; have B9 := Lib.hid (show Blk w9 g9 24 (bv SG).toArray from m9.blk); replace KK := Lib.hid (KK.out.then0 m9.kept); replace H := Lib.hid (H.out.kept m9.kept); clear m9)
    | (go_at_call 19; (with_reducible refine (size_any H.out).mono ?_); rintro e v ⟨rfl, rfl⟩)
    | ((with_reducible refine wpl_at 25 ?_); (refine wpl_bslice2o (o := ⟨some 25, _, _, _, _, _⟩) (v0 := .int .u8 ((UInt8.ofNat i).toNat : Int)) (v1 := .int .u8 (tag.toNat : Int)) rfl bytesT rfl rfl rfl rfl rfl ?_); intro g25 w25 m25
       have R25 := Lib.hid (show isRd [UInt8.ofNat i, tag] (.slice (some ⟨g25, 0, none⟩) 2 2) w25 from Blk.rd (cs := bv [UInt8.ofNat i, tag]) m25.blk rfl (Nat.le_refl _))
       replace KK := Lib.hid (KK.out.then0 m25.kept)
       replace H := Lib.hid (H.out.kept m25.kept)
       replace B9 := Lib.hid (B9.out.kept m25.kept (by simp))
       clear m25)
    | ((with_reducible refine wpl_at 28 ?_); (refine wpl_bslice3 (o := ⟨some 28, _, _, _, _, _⟩) (v0 := .slice (some ⟨g25, 0, none⟩) 2 2) (v1 := .slice (some ⟨g9, 0, none⟩) 64 64) (v2 := .slice BA body.length bc) rfl slicesT rfl rfl rfl rfl rfl rfl rfl ?_); intro gp wp mp
       have PP := Lib.hid (parts3 mp.blk (R25.out.kept0 mp.kept) (show isRd SG _ wp from by unfold isRd; rw [hg.out]; exact Blk.rd (B9.out.kept mp.kept (by simp)) (by simp [hg.out]) (Nat.le_refl _)) ((hm.out.kept0 KK.out).kept0 mp.kept))
       replace KK := Lib.hid (KK.out.then0 mp.kept)
       replace H := Lib.hid (H.out.kept mp.kept)
       replace B9 := Lib.hid (B9.out.kept mp.kept (by simp))
       clear mp R25)
    | (go_at_call 50; (with_reducible refine (wjoin_any _ _ _ PP.out (by simp) (by rw [hjo.out, hKl.out]; have := hml.out; omega)).mono ?_); rintro e v29 ⟨x29, rfl, hn⟩
       rw [hjo.out] at hn
       have R29 := Lib.hid hn.rd
       replace KK := Lib.hid (KK.out.then0 hn.kept)
       replace H := Lib.hid (H.out.kept hn.kept)
       replace B9 := Lib.hid (B9.out.kept hn.kept (by simp))
       have q1 : v29.cell? ⟨r, 1, none⟩ = some (.map (some b)) := by rw [H.out.blk.cell]; rfl
       have q0 : v29.cell? ⟨r, 0, none⟩ = some (.slice KA keys.length kc) := by rw [H.out.blk.cell]; rfl
       clear hn PP)
    | ((with_reducible refine wpl_at 30 ?_); refine wpl_toS (o := ⟨some 30, _, _, _, _, _⟩) Try.underlying23 Try.underlying5 Try.underlying9 rfl (.tmp 29) rfl rfl R29.out ?_)
    | (at_lookup; refine wpList_lookup_own_int _ rfl _ _ _ rfl 9 3 .i64 sk Try.underlying91 Try.underlying3 (zeroI _) b n D rfl (mp.kept KK.out (by simp)) (.string (mkS K)) (.string K) rfl hkey.out ?_
       intro c' hc' _
       obtain rfl : c' = 2 := by
         have := hat.out
         unfold atM at this
         rw [hc'] at this
         injection this with this
         injection this
       clear hc'))
  go_ret
  exact ⟨rfl, KK.out⟩
set_option maxRecDepth 100000 in
set_option maxHeartbeats 3200000 in
theorem open_miss_true {w : World} {r b : Nat} {kv : Value} {keys : List (List UInt8)} {D : DU} {i : Nat} {tag : UInt8} {SG body : List UInt8} (h : Rg w r kv keys b D) (hi : i < keys.length) (hg : SG.length = 64) (mv : Value) (hm : isRd body mv w) (hml : body.length ≤ 140737488351232) (hat : atM D (keyB i tag SG body) = .lit (.int .i64 0)) (hok : okV (keys.getD i []) SG (whatB tag body) = true) (hroom : Maps.size D < 16384)
    (co : ∀ u, isRd body mv u → Calls Try.prog 16 #[ab (keys.getD i []), .int .u8 (tag.toNat : Int), mv, ab SG] u fun e w' => e = .returned (.bool true) ∧ Kept [] u w') :
    Calls Try.prog 15 #[.pointer (some ⟨r, 0, none⟩), .int .i64 (i : Int), .int .u8 (tag.toNat : Int), mv, ab SG] w fun e w' => e = .returned (.bool true) ∧ ∃ D', Rg w' r kv keys b D' ∧ Kept [b] w w' := by
  obtain ⟨KA, kc, e0, _⟩ := h.rows
  subst e0
  obtain ⟨BA, bc, e1, _⟩ := id hm
  subst e1
  have hlt7 := h.few
  obtain ⟨n, mp⟩ := h.map
  have H := Lib.hid h
  have hx0 : ¬ ((i : Int) < 0) := by omega
  have hx1 : ¬ ((keys.length : Int) ≤ (i : Int)) := by omega
  have hi8 : IntKind.u8.wrap (i : Int) = ((UInt8.ofNat i).toNat : Int) := by
    rw [UInt8.toNat_ofNat_of_lt' (by show i < 256; omega), IntKind.wrap_u8]
    omega
  have hKl := Lib.hid (show (keyB i tag SG body).length = 66 + body.length by unfold keyB; simp [hg]; omega)
  have hkey := Go.WideMaps.keyOf_string_mk Try.underlying9 (s := mkS (keyB i tag SG body)) (by show (keyB i tag SG body).length ≤ maxLen; rw [hKl.out]; simp only [maxLen]; omega)
  have hkd : (mkS (keyB i tag SG body)).data.toList = keyB i tag SG body := by simp [mkS]
  rw [hkd] at hkey
  replace hkey := Lib.hid hkey
  have hjo := Lib.hid (show ∀ v1 v2 v3 : Value, joined [(v1, [UInt8.ofNat i, tag]), (v2, SG), (v3, body)] = keyB i tag SG body from fun _ _ _ => by simp [joined, bytesOf, keyB])
  generalize hK : keyB i tag SG body = K at *
  replace hK := Lib.hid hK
  replace hat := Lib.hid hat
  have hm := Lib.hid hm
  have hg := Lib.hid hg
  have hi := Lib.hid hi
  have hml := Lib.hid hml
  have KK := Lib.hid (Kept.refl [] w)
  clear h hkd
  replace co := Lib.hid co
  replace hok := Lib.hid hok
  go_enter Try.func15, Try.ntmps15
  go_wp2_with (first
    | ((with_reducible refine wpl_at 9 ?_); (refine wpl_box (o := ⟨some 9, _, _, _, _, _⟩) (v := ab SG) rfl (.tmp 4) rfl rfl ?_); intro g9 w9 m9; have B9 := Lib.hid (show Blk w9 g9 24 (bv SG).toArray from m9.blk); replace KK := Lib.hid (KK.out.then0 m9.kept); replace H := Lib.hid (H.out.kept m9.kept); clear m9)
    | (go_at_call 19; (with_reducible refine (size_any H.out).mono ?_); rintro e v ⟨rfl, rfl⟩)
    | ((with_reducible refine wpl_at 25 ?_); (refine wpl_bslice2o (o := ⟨some 25, _, _, _, _, _⟩) (v0 := .int .u8 ((UInt8.ofNat i).toNat : Int)) (v1 := .int .u8 (tag.toNat : Int)) rfl bytesT rfl rfl rfl rfl rfl ?_); intro g25 w25 m25
       have R25 := Lib.hid (show isRd [UInt8.ofNat i, tag] (.slice (some ⟨g25, 0, none⟩) 2 2) w25 from Blk.rd (cs := bv [UInt8.ofNat i, tag]) m25.blk rfl (Nat.le_refl _))
       replace KK := Lib.hid (KK.out.then0 m25.kept)
       replace H := Lib.hid (H.out.kept m25.kept)
       replace B9 := Lib.hid (B9.out.kept m25.kept (by simp))
       clear m25)
    | ((with_reducible refine wpl_at 28 ?_); (refine wpl_bslice3 (o := ⟨some 28, _, _, _, _, _⟩) (v0 := .slice (some ⟨g25, 0, none⟩) 2 2) (v1 := .slice (some ⟨g9, 0, none⟩) 64 64) (v2 := .slice BA body.length bc) rfl slicesT rfl rfl rfl rfl rfl rfl rfl ?_); intro gp wp mp
       have PP := Lib.hid (parts3 mp.blk (R25.out.kept0 mp.kept) (show isRd SG _ wp from by unfold isRd; rw [hg.out]; exact Blk.rd (B9.out.kept mp.kept (by simp)) (by simp [hg.out]) (Nat.le_refl _)) ((hm.out.kept0 KK.out).kept0 mp.kept))
       replace KK := Lib.hid (KK.out.then0 mp.kept)
       replace H := Lib.hid (H.out.kept mp.kept)
       replace B9 := Lib.hid (B9.out.kept mp.kept (by simp))
       clear mp R25)
    | (go_at_call 50; (with_reducible refine (wjoin_any _ _ _ PP.out (by simp) (by rw [hjo.out, hKl.out]; have := hml.out; omega)).mono ?_); rintro e v29 ⟨x29, rfl, hn⟩
       rw [hjo.out] at hn
       have R29 := Lib.hid hn.rd
       replace KK := Lib.hid (KK.out.then0 hn.kept)
       replace H := Lib.hid (H.out.kept hn.kept)
       replace B9 := Lib.hid (B9.out.kept hn.kept (by simp))
       have q1 : v29.cell? ⟨r, 1, none⟩ = some (.map (some b)) := by rw [H.out.blk.cell]; rfl
       have q0 : v29.cell? ⟨r, 0, none⟩ = some (.slice KA keys.length kc) := by rw [H.out.blk.cell]; rfl
       clear hn PP)
    | ((with_reducible refine wpl_at 30 ?_); refine wpl_toS (o := ⟨some 30, _, _, _, _, _⟩) Try.underlying23 Try.underlying5 Try.underlying9 rfl (.tmp 29) rfl rfl R29.out ?_)
    | (at_lookup; refine wpList_lookup_own_int _ rfl _ _ _ rfl 9 3 .i64 sk Try.underlying91 Try.underlying3 (zeroI _) b n D rfl (mp.kept KK.out (by simp)) (.string (mkS K)) (.string K) rfl hkey.out ?_
       intro c' hc' _
       obtain rfl : c' = 0 := by
         have := hat.out
         unfold atM at this
         rw [hc'] at this
         injection this with this
         injection this
       clear hc'))
  obtain ⟨pre, post, hpp, hpl⟩ := split_at hi.out H.out.len
  have hKey := Lib.hid (H.out.len (keys.getD i []) (by rw [show keys.getD i [] = keys[i]'(hi.out) from by simp [List.getD_eq_getElem?_getD, hi.out]]; exact List.getElem_mem _))
  obtain ⟨kb, ko, c2, he2, _, _⟩ := H.out.rows.at_ (by have := hi.out; omega)
  cases he2
  have hrng := Lib.hid (Rd.elem (i := i) H.out.rows hpp hpl (by have := hi.out; omega))
  generalize hky : keys.getD i [] = key at *
  replace hky := Lib.hid hky
  have hmv := Lib.hid (show isRd body (.slice BA body.length bc) v29.drew from hm.out.kept0 KK.out.drew)
  refine Txt.wp_text (by kernel_rfl) (by kernel_rfl) ?_
  go_wp2_with (first
    | ((with_reducible refine wpl_at 46 ?_); refine wpl_idxs (o := ⟨some 46, _, _, _, _, _⟩) keysT rfl (.tmp 44) (.tmp 45) rfl rfl rfl hi.out ?_)
    | ((with_reducible refine wpl_at 47 ?_); refine wpl_loadp (o := ⟨some 47, _, _, _, _, _⟩) (cs := bv key) arrB.row rfl (.tmp 46) rfl rfl hrng.out (by simpa using hKey.out) ?_)
    | ((with_reducible refine wpl_at 50 ?_); refine wpl_load_row (cs := (bv SG).toArray) (o := ⟨some 50, _, _, _, _, _⟩) Q.sigR rfl (.tmp 9) rfl rfl B9.out.drew (by simpa using hg.out) ?_)
    | (go_at_call 16; (with_reducible refine (co.out _ hmv.out).mono ?_); rintro e v51 ⟨rfl, k51⟩
       have K51 := Lib.hid (KK.out.then0 k51.from_drew)
       have H51 := Lib.hid (H.out.kept k51.from_drew)
       have q1 : v51.cell? ⟨r, 1, none⟩ = some (.map (some b)) := by rw [H51.out.blk.cell]; rfl
       clear k51))
  refine ⟨rfl, by kernel_rfl, ?_⟩
  go_wp2_with (first
    | (at_len; refine wpList_len_own _ rfl _ 91 rfl 9 3 Try.underlying91 _ b n D rfl (mp.kept K51.out (by simp)) ?_)
    | (at_mapUpdate; refine wpList_mapUpdate_own _ rfl _ _ _ 91 rfl 9 3 sk Try.underlying91 _ b (Maps.size D) D rfl (oM.tight (mp.kept K51.out (by simp))) (by simp only [maxLen]; omega) (.string (mkS K)) (.int .i64 1) (.string K) rfl rfl hkey.out (.lit (.int .i64 1)) [] (plainElem_int Try.underlying3 (by decide)) ?_
       intro w9 own9 grow9))
  go_ret
  have kb := Kept.grown grow9
  have hs := SeenP.put H51.out.seen H51.out.isMap H51.out.few hi.out hg.out (tag := tag) (body := body) (c := 1) (by decide) (by rw [hky.out]; simp [hok.out])
  have hK2 := hK.out
  unfold keyB at hK2
  rw [hK2] at hs
  exact ⟨rfl, _, H51.out.turned kb own9 hs (isMap_put H51.out.isMap), (Kept.of0 K51.out).trans' kb⟩
set_option maxRecDepth 100000 in
set_option maxHeartbeats 3200000 in
theorem open_miss_true_full {w : World} {r b : Nat} {kv : Value} {keys : List (List UInt8)} {D : DU} {i : Nat} {tag : UInt8} {SG body : List UInt8} (h : Rg w r kv keys b D) (hi : i < keys.length) (hg : SG.length = 64) (mv : Value) (hm : isRd body mv w) (hml : body.length ≤ 140737488351232) (hat : atM D (keyB i tag SG body) = .lit (.int .i64 0)) (hok : okV (keys.getD i []) SG (whatB tag body) = true) (hroom : ¬ Maps.size D < 16384)
    (co : ∀ u, isRd body mv u → Calls Try.prog 16 #[ab (keys.getD i []), .int .u8 (tag.toNat : Int), mv, ab SG] u fun e w' => e = .returned (.bool true) ∧ Kept [] u w') :
    Calls Try.prog 15 #[.pointer (some ⟨r, 0, none⟩), .int .i64 (i : Int), .int .u8 (tag.toNat : Int), mv, ab SG] w fun e w' => e = .returned (.bool true) ∧ ∃ D', Rg w' r kv keys b D' ∧ Kept [b] w w' := by
  obtain ⟨KA, kc, e0, _⟩ := h.rows
  subst e0
  obtain ⟨BA, bc, e1, _⟩ := id hm
  subst e1
  have hlt7 := h.few
  obtain ⟨n, mp⟩ := h.map
  have H := Lib.hid h
  have hx0 : ¬ ((i : Int) < 0) := by omega
  have hx1 : ¬ ((keys.length : Int) ≤ (i : Int)) := by omega
  have hi8 : IntKind.u8.wrap (i : Int) = ((UInt8.ofNat i).toNat : Int) := by
    rw [UInt8.toNat_ofNat_of_lt' (by show i < 256; omega), IntKind.wrap_u8]
    omega
  have hKl := Lib.hid (show (keyB i tag SG body).length = 66 + body.length by unfold keyB; simp [hg]; omega)
  have hkey := Go.WideMaps.keyOf_string_mk Try.underlying9 (s := mkS (keyB i tag SG body)) (by show (keyB i tag SG body).length ≤ maxLen; rw [hKl.out]; simp only [maxLen]; omega)
  have hkd : (mkS (keyB i tag SG body)).data.toList = keyB i tag SG body := by simp [mkS]
  rw [hkd] at hkey
  replace hkey := Lib.hid hkey
  have hjo := Lib.hid (show ∀ v1 v2 v3 : Value, joined [(v1, [UInt8.ofNat i, tag]), (v2, SG), (v3, body)] = keyB i tag SG body from fun _ _ _ => by simp [joined, bytesOf, keyB])
  generalize hK : keyB i tag SG body = K at *
  replace hK := Lib.hid hK
  replace hat := Lib.hid hat
  have hm := Lib.hid hm
  have hg := Lib.hid hg
  have hi := Lib.hid hi
  have hml := Lib.hid hml
  have KK := Lib.hid (Kept.refl [] w)
  clear h hkd
  replace co := Lib.hid co
  replace hok := Lib.hid hok
  go_enter Try.func15, Try.ntmps15
  go_wp2_with (first
    | ((with_reducible refine wpl_at 9 ?_); (refine wpl_box (o := ⟨some 9, _, _, _, _, _⟩) (v := ab SG) rfl (.tmp 4) rfl rfl ?_); intro g9 w9 m9; have B9 := Lib.hid (show Blk w9 g9 24 (bv SG).toArray from m9.blk); replace KK := Lib.hid (KK.out.then0 m9.kept); replace H := Lib.hid (H.out.kept m9.kept); clear m9)
    | (go_at_call 19; (with_reducible refine (size_any H.out).mono ?_); rintro e v ⟨rfl, rfl⟩)
    | ((with_reducible refine wpl_at 25 ?_); (refine wpl_bslice2o (o := ⟨some 25, _, _, _, _, _⟩) (v0 := .int .u8 ((UInt8.ofNat i).toNat : Int)) (v1 := .int .u8 (tag.toNat : Int)) rfl bytesT rfl rfl rfl rfl rfl ?_); intro g25 w25 m25
       have R25 := Lib.hid (show isRd [UInt8.ofNat i, tag] (.slice (some ⟨g25, 0, none⟩) 2 2) w25 from Blk.rd (cs := bv [UInt8.ofNat i, tag]) m25.blk rfl (Nat.le_refl _))
       replace KK := Lib.hid (KK.out.then0 m25.kept)
       replace H := Lib.hid (H.out.kept m25.kept)
       replace B9 := Lib.hid (B9.out.kept m25.kept (by simp))
       clear m25)
    | ((with_reducible refine wpl_at 28 ?_); (refine wpl_bslice3 (o := ⟨some 28, _, _, _, _, _⟩) (v0 := .slice (some ⟨g25, 0, none⟩) 2 2) (v1 := .slice (some ⟨g9, 0, none⟩) 64 64) (v2 := .slice BA body.length bc) rfl slicesT rfl rfl rfl rfl rfl rfl rfl ?_); intro gp wp mp
       have PP := Lib.hid (parts3 mp.blk (R25.out.kept0 mp.kept) (show isRd SG _ wp from by unfold isRd; rw [hg.out]; exact Blk.rd (B9.out.kept mp.kept (by simp)) (by simp [hg.out]) (Nat.le_refl _)) ((hm.out.kept0 KK.out).kept0 mp.kept))
       replace KK := Lib.hid (KK.out.then0 mp.kept)
       replace H := Lib.hid (H.out.kept mp.kept)
       replace B9 := Lib.hid (B9.out.kept mp.kept (by simp))
       clear mp R25)
    | (go_at_call 50; (with_reducible refine (wjoin_any _ _ _ PP.out (by simp) (by rw [hjo.out, hKl.out]; have := hml.out; omega)).mono ?_); rintro e v29 ⟨x29, rfl, hn⟩
       rw [hjo.out] at hn
       have R29 := Lib.hid hn.rd
       replace KK := Lib.hid (KK.out.then0 hn.kept)
       replace H := Lib.hid (H.out.kept hn.kept)
       replace B9 := Lib.hid (B9.out.kept hn.kept (by simp))
       have q1 : v29.cell? ⟨r, 1, none⟩ = some (.map (some b)) := by rw [H.out.blk.cell]; rfl
       have q0 : v29.cell? ⟨r, 0, none⟩ = some (.slice KA keys.length kc) := by rw [H.out.blk.cell]; rfl
       clear hn PP)
    | ((with_reducible refine wpl_at 30 ?_); refine wpl_toS (o := ⟨some 30, _, _, _, _, _⟩) Try.underlying23 Try.underlying5 Try.underlying9 rfl (.tmp 29) rfl rfl R29.out ?_)
    | (at_lookup; refine wpList_lookup_own_int _ rfl _ _ _ rfl 9 3 .i64 sk Try.underlying91 Try.underlying3 (zeroI _) b n D rfl (mp.kept KK.out (by simp)) (.string (mkS K)) (.string K) rfl hkey.out ?_
       intro c' hc' _
       obtain rfl : c' = 0 := by
         have := hat.out
         unfold atM at this
         rw [hc'] at this
         injection this with this
         injection this
       clear hc'))
  obtain ⟨pre, post, hpp, hpl⟩ := split_at hi.out H.out.len
  have hKey := Lib.hid (H.out.len (keys.getD i []) (by rw [show keys.getD i [] = keys[i]'(hi.out) from by simp [List.getD_eq_getElem?_getD, hi.out]]; exact List.getElem_mem _))
  obtain ⟨kb, ko, c2, he2, _, _⟩ := H.out.rows.at_ (by have := hi.out; omega)
  cases he2
  have hrng := Lib.hid (Rd.elem (i := i) H.out.rows hpp hpl (by have := hi.out; omega))
  generalize hky : keys.getD i [] = key at *
  replace hky := Lib.hid hky
  have hmv := Lib.hid (show isRd body (.slice BA body.length bc) v29.drew from hm.out.kept0 KK.out.drew)
  refine Txt.wp_text (by kernel_rfl) (by kernel_rfl) ?_
  go_wp2_with (first
    | ((with_reducible refine wpl_at 46 ?_); refine wpl_idxs (o := ⟨some 46, _, _, _, _, _⟩) keysT rfl (.tmp 44) (.tmp 45) rfl rfl rfl hi.out ?_)
    | ((with_reducible refine wpl_at 47 ?_); refine wpl_loadp (o := ⟨some 47, _, _, _, _, _⟩) (cs := bv key) arrB.row rfl (.tmp 46) rfl rfl hrng.out (by simpa using hKey.out) ?_)
    | ((with_reducible refine wpl_at 50 ?_); refine wpl_load_row (cs := (bv SG).toArray) (o := ⟨some 50, _, _, _, _, _⟩) Q.sigR rfl (.tmp 9) rfl rfl B9.out.drew (by simpa using hg.out) ?_)
    | (go_at_call 16; (with_reducible refine (co.out _ hmv.out).mono ?_); rintro e v51 ⟨rfl, k51⟩
       have K51 := Lib.hid (KK.out.then0 k51.from_drew)
       have H51 := Lib.hid (H.out.kept k51.from_drew)
       have q1 : v51.cell? ⟨r, 1, none⟩ = some (.map (some b)) := by rw [H51.out.blk.cell]; rfl
       clear k51))
  refine ⟨rfl, by kernel_rfl, ?_⟩
  go_wp2_with (first
    | (at_len; refine wpList_len_own _ rfl _ 91 rfl 9 3 Try.underlying91 _ b n D rfl (mp.kept K51.out (by simp)) ?_)
    | (at_mapUpdate; refine wpList_mapUpdate_own _ rfl _ _ _ 91 rfl 9 3 sk Try.underlying91 _ b (Maps.size D) D rfl (oM.tight (mp.kept K51.out (by simp))) (by simp only [maxLen]; omega) (.string (mkS K)) (.int .i64 1) (.string K) rfl rfl hkey.out (.lit (.int .i64 1)) [] (plainElem_int Try.underlying3 (by decide)) ?_
       intro w9 own9 grow9))
  go_ret
  exact ⟨rfl, D, H51.out, Kept.of0 K51.out⟩
set_option maxRecDepth 100000 in
set_option maxHeartbeats 3200000 in
theorem open_miss_false {w : World} {r b : Nat} {kv : Value} {keys : List (List UInt8)} {D : DU} {i : Nat} {tag : UInt8} {SG body : List UInt8} (h : Rg w r kv keys b D) (hi : i < keys.length) (hg : SG.length = 64) (mv : Value) (hm : isRd body mv w) (hml : body.length ≤ 140737488351232) (hat : atM D (keyB i tag SG body) = .lit (.int .i64 0)) (hok : okV (keys.getD i []) SG (whatB tag body) = false) (hroom : Maps.size D < 16384)
    (co : ∀ u, isRd body mv u → Calls Try.prog 16 #[ab (keys.getD i []), .int .u8 (tag.toNat : Int), mv, ab SG] u fun e w' => e = .returned (.bool false) ∧ Kept [] u w') :
    Calls Try.prog 15 #[.pointer (some ⟨r, 0, none⟩), .int .i64 (i : Int), .int .u8 (tag.toNat : Int), mv, ab SG] w fun e w' => e = .returned (.bool false) ∧ ∃ D', Rg w' r kv keys b D' ∧ Kept [b] w w' := by
  obtain ⟨KA, kc, e0, _⟩ := h.rows
  subst e0
  obtain ⟨BA, bc, e1, _⟩ := id hm
  subst e1
  have hlt7 := h.few
  obtain ⟨n, mp⟩ := h.map
  have H := Lib.hid h
  have hx0 : ¬ ((i : Int) < 0) := by omega
  have hx1 : ¬ ((keys.length : Int) ≤ (i : Int)) := by omega
  have hi8 : IntKind.u8.wrap (i : Int) = ((UInt8.ofNat i).toNat : Int) := by
    rw [UInt8.toNat_ofNat_of_lt' (by show i < 256; omega), IntKind.wrap_u8]
    omega
  have hKl := Lib.hid (show (keyB i tag SG body).length = 66 + body.length by unfold keyB; simp [hg]; omega)
  have hkey := Go.WideMaps.keyOf_string_mk Try.underlying9 (s := mkS (keyB i tag SG body)) (by show (keyB i tag SG body).length ≤ maxLen; rw [hKl.out]; simp only [maxLen]; omega)
  have hkd : (mkS (keyB i tag SG body)).data.toList = keyB i tag SG body := by simp [mkS]
  rw [hkd] at hkey
  replace hkey := Lib.hid hkey
  have hjo := Lib.hid (show ∀ v1 v2 v3 : Value, joined [(v1, [UInt8.ofNat i, tag]), (v2, SG), (v3, body)] = keyB i tag SG body from fun _ _ _ => by simp [joined, bytesOf, keyB])
  generalize hK : keyB i tag SG body = K at *
  replace hK := Lib.hid hK
  replace hat := Lib.hid hat
  have hm := Lib.hid hm
  have hg := Lib.hid hg
  have hi := Lib.hid hi
  have hml := Lib.hid hml
  have KK := Lib.hid (Kept.refl [] w)
  clear h hkd
  replace co := Lib.hid co
  replace hok := Lib.hid hok
  go_enter Try.func15, Try.ntmps15
  go_wp2_with (first
    | ((with_reducible refine wpl_at 9 ?_); (refine wpl_box (o := ⟨some 9, _, _, _, _, _⟩) (v := ab SG) rfl (.tmp 4) rfl rfl ?_); intro g9 w9 m9; have B9 := Lib.hid (show Blk w9 g9 24 (bv SG).toArray from m9.blk); replace KK := Lib.hid (KK.out.then0 m9.kept); replace H := Lib.hid (H.out.kept m9.kept); clear m9)
    | (go_at_call 19; (with_reducible refine (size_any H.out).mono ?_); rintro e v ⟨rfl, rfl⟩)
    | ((with_reducible refine wpl_at 25 ?_); (refine wpl_bslice2o (o := ⟨some 25, _, _, _, _, _⟩) (v0 := .int .u8 ((UInt8.ofNat i).toNat : Int)) (v1 := .int .u8 (tag.toNat : Int)) rfl bytesT rfl rfl rfl rfl rfl ?_); intro g25 w25 m25
       have R25 := Lib.hid (show isRd [UInt8.ofNat i, tag] (.slice (some ⟨g25, 0, none⟩) 2 2) w25 from Blk.rd (cs := bv [UInt8.ofNat i, tag]) m25.blk rfl (Nat.le_refl _))
       replace KK := Lib.hid (KK.out.then0 m25.kept)
       replace H := Lib.hid (H.out.kept m25.kept)
       replace B9 := Lib.hid (B9.out.kept m25.kept (by simp))
       clear m25)
    | ((with_reducible refine wpl_at 28 ?_); (refine wpl_bslice3 (o := ⟨some 28, _, _, _, _, _⟩) (v0 := .slice (some ⟨g25, 0, none⟩) 2 2) (v1 := .slice (some ⟨g9, 0, none⟩) 64 64) (v2 := .slice BA body.length bc) rfl slicesT rfl rfl rfl rfl rfl rfl rfl ?_); intro gp wp mp
       have PP := Lib.hid (parts3 mp.blk (R25.out.kept0 mp.kept) (show isRd SG _ wp from by unfold isRd; rw [hg.out]; exact Blk.rd (B9.out.kept mp.kept (by simp)) (by simp [hg.out]) (Nat.le_refl _)) ((hm.out.kept0 KK.out).kept0 mp.kept))
       replace KK := Lib.hid (KK.out.then0 mp.kept)
       replace H := Lib.hid (H.out.kept mp.kept)
       replace B9 := Lib.hid (B9.out.kept mp.kept (by simp))
       clear mp R25)
    | (go_at_call 50; (with_reducible refine (wjoin_any _ _ _ PP.out (by simp) (by rw [hjo.out, hKl.out]; have := hml.out; omega)).mono ?_); rintro e v29 ⟨x29, rfl, hn⟩
       rw [hjo.out] at hn
       have R29 := Lib.hid hn.rd
       replace KK := Lib.hid (KK.out.then0 hn.kept)
       replace H := Lib.hid (H.out.kept hn.kept)
       replace B9 := Lib.hid (B9.out.kept hn.kept (by simp))
       have q1 : v29.cell? ⟨r, 1, none⟩ = some (.map (some b)) := by rw [H.out.blk.cell]; rfl
       have q0 : v29.cell? ⟨r, 0, none⟩ = some (.slice KA keys.length kc) := by rw [H.out.blk.cell]; rfl
       clear hn PP)
    | ((with_reducible refine wpl_at 30 ?_); refine wpl_toS (o := ⟨some 30, _, _, _, _, _⟩) Try.underlying23 Try.underlying5 Try.underlying9 rfl (.tmp 29) rfl rfl R29.out ?_)
    | (at_lookup; refine wpList_lookup_own_int _ rfl _ _ _ rfl 9 3 .i64 sk Try.underlying91 Try.underlying3 (zeroI _) b n D rfl (mp.kept KK.out (by simp)) (.string (mkS K)) (.string K) rfl hkey.out ?_
       intro c' hc' _
       obtain rfl : c' = 0 := by
         have := hat.out
         unfold atM at this
         rw [hc'] at this
         injection this with this
         injection this
       clear hc'))
  obtain ⟨pre, post, hpp, hpl⟩ := split_at hi.out H.out.len
  have hKey := Lib.hid (H.out.len (keys.getD i []) (by rw [show keys.getD i [] = keys[i]'(hi.out) from by simp [List.getD_eq_getElem?_getD, hi.out]]; exact List.getElem_mem _))
  obtain ⟨kb, ko, c2, he2, _, _⟩ := H.out.rows.at_ (by have := hi.out; omega)
  cases he2
  have hrng := Lib.hid (Rd.elem (i := i) H.out.rows hpp hpl (by have := hi.out; omega))
  generalize hky : keys.getD i [] = key at *
  replace hky := Lib.hid hky
  have hmv := Lib.hid (show isRd body (.slice BA body.length bc) v29.drew from hm.out.kept0 KK.out.drew)
  refine Txt.wp_text (by kernel_rfl) (by kernel_rfl) ?_
  go_wp2_with (first
    | ((with_reducible refine wpl_at 46 ?_); refine wpl_idxs (o := ⟨some 46, _, _, _, _, _⟩) keysT rfl (.tmp 44) (.tmp 45) rfl rfl rfl hi.out ?_)
    | ((with_reducible refine wpl_at 47 ?_); refine wpl_loadp (o := ⟨some 47, _, _, _, _, _⟩) (cs := bv key) arrB.row rfl (.tmp 46) rfl rfl hrng.out (by simpa using hKey.out) ?_)
    | ((with_reducible refine wpl_at 50 ?_); refine wpl_load_row (cs := (bv SG).toArray) (o := ⟨some 50, _, _, _, _, _⟩) Q.sigR rfl (.tmp 9) rfl rfl B9.out.drew (by simpa using hg.out) ?_)
    | (go_at_call 16; (with_reducible refine (co.out _ hmv.out).mono ?_); rintro e v51 ⟨rfl, k51⟩
       have K51 := Lib.hid (KK.out.then0 k51.from_drew)
       have H51 := Lib.hid (H.out.kept k51.from_drew)
       have q1 : v51.cell? ⟨r, 1, none⟩ = some (.map (some b)) := by rw [H51.out.blk.cell]; rfl
       clear k51))
  refine ⟨rfl, by kernel_rfl, ?_⟩
  go_wp2_with (first
    | (at_len; refine wpList_len_own _ rfl _ 91 rfl 9 3 Try.underlying91 _ b n D rfl (mp.kept K51.out (by simp)) ?_)
    | (at_mapUpdate; refine wpList_mapUpdate_own _ rfl _ _ _ 91 rfl 9 3 sk Try.underlying91 _ b (Maps.size D) D rfl (oM.tight (mp.kept K51.out (by simp))) (by simp only [maxLen]; omega) (.string (mkS K)) (.int .i64 2) (.string K) rfl rfl hkey.out (.lit (.int .i64 2)) [] (plainElem_int Try.underlying3 (by decide)) ?_
       intro w9 own9 grow9))
  go_ret
  have kb := Kept.grown grow9
  have hs := SeenP.put H51.out.seen H51.out.isMap H51.out.few hi.out hg.out (tag := tag) (body := body) (c := 2) (by decide) (by rw [hky.out]; simp [hok.out])
  have hK2 := hK.out
  unfold keyB at hK2
  rw [hK2] at hs
  exact ⟨rfl, _, H51.out.turned kb own9 hs (isMap_put H51.out.isMap), (Kept.of0 K51.out).trans' kb⟩
set_option maxRecDepth 100000 in
set_option maxHeartbeats 3200000 in
theorem open_miss_false_full {w : World} {r b : Nat} {kv : Value} {keys : List (List UInt8)} {D : DU} {i : Nat} {tag : UInt8} {SG body : List UInt8} (h : Rg w r kv keys b D) (hi : i < keys.length) (hg : SG.length = 64) (mv : Value) (hm : isRd body mv w) (hml : body.length ≤ 140737488351232) (hat : atM D (keyB i tag SG body) = .lit (.int .i64 0)) (hok : okV (keys.getD i []) SG (whatB tag body) = false) (hroom : ¬ Maps.size D < 16384)
    (co : ∀ u, isRd body mv u → Calls Try.prog 16 #[ab (keys.getD i []), .int .u8 (tag.toNat : Int), mv, ab SG] u fun e w' => e = .returned (.bool false) ∧ Kept [] u w') :
    Calls Try.prog 15 #[.pointer (some ⟨r, 0, none⟩), .int .i64 (i : Int), .int .u8 (tag.toNat : Int), mv, ab SG] w fun e w' => e = .returned (.bool false) ∧ ∃ D', Rg w' r kv keys b D' ∧ Kept [b] w w' := by
  obtain ⟨KA, kc, e0, _⟩ := h.rows
  subst e0
  obtain ⟨BA, bc, e1, _⟩ := id hm
  subst e1
  have hlt7 := h.few
  obtain ⟨n, mp⟩ := h.map
  have H := Lib.hid h
  have hx0 : ¬ ((i : Int) < 0) := by omega
  have hx1 : ¬ ((keys.length : Int) ≤ (i : Int)) := by omega
  have hi8 : IntKind.u8.wrap (i : Int) = ((UInt8.ofNat i).toNat : Int) := by
    rw [UInt8.toNat_ofNat_of_lt' (by show i < 256; omega), IntKind.wrap_u8]
    omega
  have hKl := Lib.hid (show (keyB i tag SG body).length = 66 + body.length by unfold keyB; simp [hg]; omega)
  have hkey := Go.WideMaps.keyOf_string_mk Try.underlying9 (s := mkS (keyB i tag SG body)) (by show (keyB i tag SG body).length ≤ maxLen; rw [hKl.out]; simp only [maxLen]; omega)
  have hkd : (mkS (keyB i tag SG body)).data.toList = keyB i tag SG body := by simp [mkS]
  rw [hkd] at hkey
  replace hkey := Lib.hid hkey
  have hjo := Lib.hid (show ∀ v1 v2 v3 : Value, joined [(v1, [UInt8.ofNat i, tag]), (v2, SG), (v3, body)] = keyB i tag SG body from fun _ _ _ => by simp [joined, bytesOf, keyB])
  generalize hK : keyB i tag SG body = K at *
  replace hK := Lib.hid hK
  replace hat := Lib.hid hat
  have hm := Lib.hid hm
  have hg := Lib.hid hg
  have hi := Lib.hid hi
  have hml := Lib.hid hml
  have KK := Lib.hid (Kept.refl [] w)
  clear h hkd
  replace co := Lib.hid co
  replace hok := Lib.hid hok
  go_enter Try.func15, Try.ntmps15
  go_wp2_with (first
    | ((with_reducible refine wpl_at 9 ?_); (refine wpl_box (o := ⟨some 9, _, _, _, _, _⟩) (v := ab SG) rfl (.tmp 4) rfl rfl ?_); intro g9 w9 m9; have B9 := Lib.hid (show Blk w9 g9 24 (bv SG).toArray from m9.blk); replace KK := Lib.hid (KK.out.then0 m9.kept); replace H := Lib.hid (H.out.kept m9.kept); clear m9)
    | (go_at_call 19; (with_reducible refine (size_any H.out).mono ?_); rintro e v ⟨rfl, rfl⟩)
    | ((with_reducible refine wpl_at 25 ?_); (refine wpl_bslice2o (o := ⟨some 25, _, _, _, _, _⟩) (v0 := .int .u8 ((UInt8.ofNat i).toNat : Int)) (v1 := .int .u8 (tag.toNat : Int)) rfl bytesT rfl rfl rfl rfl rfl ?_); intro g25 w25 m25
       have R25 := Lib.hid (show isRd [UInt8.ofNat i, tag] (.slice (some ⟨g25, 0, none⟩) 2 2) w25 from Blk.rd (cs := bv [UInt8.ofNat i, tag]) m25.blk rfl (Nat.le_refl _))
       replace KK := Lib.hid (KK.out.then0 m25.kept)
       replace H := Lib.hid (H.out.kept m25.kept)
       replace B9 := Lib.hid (B9.out.kept m25.kept (by simp))
       clear m25)
    | ((with_reducible refine wpl_at 28 ?_); (refine wpl_bslice3 (o := ⟨some 28, _, _, _, _, _⟩) (v0 := .slice (some ⟨g25, 0, none⟩) 2 2) (v1 := .slice (some ⟨g9, 0, none⟩) 64 64) (v2 := .slice BA body.length bc) rfl slicesT rfl rfl rfl rfl rfl rfl rfl ?_); intro gp wp mp
       have PP := Lib.hid (parts3 mp.blk (R25.out.kept0 mp.kept) (show isRd SG _ wp from by unfold isRd; rw [hg.out]; exact Blk.rd (B9.out.kept mp.kept (by simp)) (by simp [hg.out]) (Nat.le_refl _)) ((hm.out.kept0 KK.out).kept0 mp.kept))
       replace KK := Lib.hid (KK.out.then0 mp.kept)
       replace H := Lib.hid (H.out.kept mp.kept)
       replace B9 := Lib.hid (B9.out.kept mp.kept (by simp))
       clear mp R25)
    | (go_at_call 50; (with_reducible refine (wjoin_any _ _ _ PP.out (by simp) (by rw [hjo.out, hKl.out]; have := hml.out; omega)).mono ?_); rintro e v29 ⟨x29, rfl, hn⟩
       rw [hjo.out] at hn
       have R29 := Lib.hid hn.rd
       replace KK := Lib.hid (KK.out.then0 hn.kept)
       replace H := Lib.hid (H.out.kept hn.kept)
       replace B9 := Lib.hid (B9.out.kept hn.kept (by simp))
       have q1 : v29.cell? ⟨r, 1, none⟩ = some (.map (some b)) := by rw [H.out.blk.cell]; rfl
       have q0 : v29.cell? ⟨r, 0, none⟩ = some (.slice KA keys.length kc) := by rw [H.out.blk.cell]; rfl
       clear hn PP)
    | ((with_reducible refine wpl_at 30 ?_); refine wpl_toS (o := ⟨some 30, _, _, _, _, _⟩) Try.underlying23 Try.underlying5 Try.underlying9 rfl (.tmp 29) rfl rfl R29.out ?_)
    | (at_lookup; refine wpList_lookup_own_int _ rfl _ _ _ rfl 9 3 .i64 sk Try.underlying91 Try.underlying3 (zeroI _) b n D rfl (mp.kept KK.out (by simp)) (.string (mkS K)) (.string K) rfl hkey.out ?_
       intro c' hc' _
       obtain rfl : c' = 0 := by
         have := hat.out
         unfold atM at this
         rw [hc'] at this
         injection this with this
         injection this
       clear hc'))
  obtain ⟨pre, post, hpp, hpl⟩ := split_at hi.out H.out.len
  have hKey := Lib.hid (H.out.len (keys.getD i []) (by rw [show keys.getD i [] = keys[i]'(hi.out) from by simp [List.getD_eq_getElem?_getD, hi.out]]; exact List.getElem_mem _))
  obtain ⟨kb, ko, c2, he2, _, _⟩ := H.out.rows.at_ (by have := hi.out; omega)
  cases he2
  have hrng := Lib.hid (Rd.elem (i := i) H.out.rows hpp hpl (by have := hi.out; omega))
  generalize hky : keys.getD i [] = key at *
  replace hky := Lib.hid hky
  have hmv := Lib.hid (show isRd body (.slice BA body.length bc) v29.drew from hm.out.kept0 KK.out.drew)
  refine Txt.wp_text (by kernel_rfl) (by kernel_rfl) ?_
  go_wp2_with (first
    | ((with_reducible refine wpl_at 46 ?_); refine wpl_idxs (o := ⟨some 46, _, _, _, _, _⟩) keysT rfl (.tmp 44) (.tmp 45) rfl rfl rfl hi.out ?_)
    | ((with_reducible refine wpl_at 47 ?_); refine wpl_loadp (o := ⟨some 47, _, _, _, _, _⟩) (cs := bv key) arrB.row rfl (.tmp 46) rfl rfl hrng.out (by simpa using hKey.out) ?_)
    | ((with_reducible refine wpl_at 50 ?_); refine wpl_load_row (cs := (bv SG).toArray) (o := ⟨some 50, _, _, _, _, _⟩) Q.sigR rfl (.tmp 9) rfl rfl B9.out.drew (by simpa using hg.out) ?_)
    | (go_at_call 16; (with_reducible refine (co.out _ hmv.out).mono ?_); rintro e v51 ⟨rfl, k51⟩
       have K51 := Lib.hid (KK.out.then0 k51.from_drew)
       have H51 := Lib.hid (H.out.kept k51.from_drew)
       have q1 : v51.cell? ⟨r, 1, none⟩ = some (.map (some b)) := by rw [H51.out.blk.cell]; rfl
       clear k51))
  refine ⟨rfl, by kernel_rfl, ?_⟩
  go_wp2_with (first
    | (at_len; refine wpList_len_own _ rfl _ 91 rfl 9 3 Try.underlying91 _ b n D rfl (mp.kept K51.out (by simp)) ?_)
    | (at_mapUpdate; refine wpList_mapUpdate_own _ rfl _ _ _ 91 rfl 9 3 sk Try.underlying91 _ b (Maps.size D) D rfl (oM.tight (mp.kept K51.out (by simp))) (by simp only [maxLen]; omega) (.string (mkS K)) (.int .i64 2) (.string K) rfl rfl hkey.out (.lit (.int .i64 2)) [] (plainElem_int Try.underlying3 (by decide)) ?_
       intro w9 own9 grow9))
  go_ret
  exact ⟨rfl, D, H51.out, Kept.of0 K51.out⟩
/-- Open says what Owned says, whatever was asked before. -/
theorem open_any {w : World} {r b : Nat} {kv : Value} {keys : List (List UInt8)} {D : DU} {i : Nat} (tag : UInt8) {SG : List UInt8} (body : List UInt8) (h : Rg w r kv keys b D) (hi : i < keys.length) (hg : SG.length = 64) (mv : Value) (hm : isRd body mv w) (hml : body.length ≤ 140737488351232) :
    Calls Try.prog 15 #[.pointer (some ⟨r, 0, none⟩), .int .i64 (i : Int), .int .u8 (tag.toNat : Int), mv, ab SG] w fun e w' => e = .returned (.bool (okV (keys.getD i []) SG (whatB tag body))) ∧ ∃ D', Rg w' r kv keys b D' ∧ Kept [b] w w' := by
  have hk32 := h.len (keys.getD i []) (by rw [show keys.getD i [] = keys[i] from by simp [List.getD_eq_getElem?_getD, hi]]; exact List.getElem_mem _)
  have co := fun u (hu : isRd body mv u) => owned_any (key := keys.getD i []) (SG := SG) tag hk32 hg mv body u hu hml
  rcases h.seen (keyB i tag SG body) with hat | ⟨c, hc, hat, hp⟩
  · cases hok : okV (keys.getD i []) SG (whatB tag body) with
    | true =>
      rw [hok] at co
      by_cases hr : Maps.size D < 16384
      · exact open_miss_true h hi hg mv hm hml hat hok hr co
      · exact open_miss_true_full h hi hg mv hm hml hat hok hr co
    | false =>
      rw [hok] at co
      by_cases hr : Maps.size D < 16384
      · exact open_miss_false h hi hg mv hm hml hat hok hr co
      · exact open_miss_false_full h hi hg mv hm hml hat hok hr co
  · have hq := hp i tag SG body rfl hi hg
    rcases hc with rfl | rfl
    · rw [hq.1 rfl]
      refine (open_hit1 h hi hg mv hm hml hat).mono ?_
      rintro e w' ⟨rfl, k⟩
      exact ⟨rfl, D, h.kept k, Kept.of0 k⟩
    · have : okV (keys.getD i []) SG (whatB tag body) = false := by
        cases ho : okV (keys.getD i []) SG (whatB tag body) with
        | false => rfl
        | true => exact absurd (hq.2 ho) (by decide)
      rw [this]
      refine (open_hit2 h hi hg mv hm hml hat).mono ?_
      rintro e w' ⟨rfl, k⟩
      exact ⟨rfl, D, h.kept k, Kept.of0 k⟩
end Go.Proofs.Ytdbngnlpafcogaa
