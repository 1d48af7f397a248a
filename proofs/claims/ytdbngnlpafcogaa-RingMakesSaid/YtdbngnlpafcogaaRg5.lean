/-
  The ring: rows of keys: Clone, Index, Contains.
-/
import Derived.Test.YtdbngnlpafcogaaRg4
namespace Go.Proofs.Ytdbngnlpafcogaa
open Go.RowKit Go.Mem Go.Txt

theorem one_keys (keys : List (List UInt8)) : ∀ u ∈ keys.flatMap bv, u.oneCell' = true := by
  intro u hu
  obtain ⟨k, _, hk⟩ := List.mem_flatMap.1 hu
  exact one_bv k u hk
theorem getD_eq {keys : List (List UInt8)} {i : Nat} (h : i < keys.length) : keys.getD i [] = keys[i] := by simp [List.getD_eq_getElem?_getD, h]
set_option maxRecDepth 100000 in
set_option maxHeartbeats 1600000 in
theorem kclone_any (v : Value) (keys : List (List UInt8)) (w : World) (hr : Rd w 32 v keys.length (keys.flatMap bv)) (h0 : 0 < keys.length) (hx : keys.length ≤ 1000000) :
    Calls Try.prog 40 #[v] w fun e w' => ∃ v', e = .returned v' ∧ Rd w' 32 v' keys.length (keys.flatMap bv) ∧ Kept [] w w' ∧ ∀ k, v'.ownBlock = some k → w.heap.size ≤ k := by
  obtain ⟨b, o, c, rfl, _, _⟩ := hr.at_ h0
  have H := Lib.hid hr
  have qn := run_eqnil Try.underlying38 (some ⟨b, o, none⟩) keys.length c 0 0
  clear hr
  go_enter Try.func40, Try.ntmps40
  go_wp2_with (at_builtin; refine wpl_app keysT rfl (.tmp 5) (.tmp 6) rfl rfl (xs := []) (n := 0) (Ow.of_own (own_alloc_at (by simp) rfl rfl (by omega))) rfl (H.out.alloc _) (one_keys keys) ?_ ?_ ?_)
  case refine_1 => omega
  case refine_2 => omega
  intro v' w' hown hk hb
  go_wp2
  go_ret
  refine ⟨_, rfl, by simpa using Rd.of_ow hown, Kept.fresh ((Kept.refl [] w).alloc _) hk (by simp [Value.ownBlock]), fun k hk2 => ?_⟩
  have hk3 : v'.ownBlock = some k := hk2
  rcases hb with hb | hb
  · rw [hb] at hk3
    simp [Value.ownBlock] at hk3
    omega
  · rw [hb] at hk3
    simp at hk3
    omega
set_option maxRecDepth 100000 in
set_option maxHeartbeats 3200000 in
theorem kindex_any (v : Value) (keys : List (List UInt8)) (k : List UInt8) (w : World) (hr : Rd w 32 v keys.length (keys.flatMap bv)) (hk : k.length = 32) (hl : ∀ x ∈ keys, x.length = 32) (hx : keys.length ≤ 1000000) :
    Calls Try.prog 75 #[v, ab k] w fun e w' => ∃ c : Int, e = .returned (.int .i64 c) ∧ (0 ≤ c ↔ k ∈ keys) ∧ Kept [] w w' := by
  obtain ⟨KA, kc, rfl, _⟩ := id hr
  have H := Lib.hid hr
  have hk := Lib.hid hk
  have hl := Lib.hid hl
  clear hr
  go_enter Try.func75, Try.ntmps75
  go_wp2_with ((with_reducible refine wpl_at 3 ?_); (refine wpl_box (o := ⟨some 3, _, _, _, _, _⟩) (v := ab k) rfl (.tmp 1) rfl rfl ?_); intro g3 w3 m3; have B3 := Lib.hid (show Blk w3 g3 26 (bv k).toArray from m3.blk); have KK := Lib.hid m3.kept; replace H := Lib.hid (H.out.kept0 m3.kept); clear m3)
  go_loopg [8] keys.length (fun f i wk => ∃ j : Nat, j ≤ keys.length ∧ f + j = keys.length ∧ i = .int .i64 j ∧ Hid (k ∉ keys.take j) ∧ Kept [] w3 wk)
  case atStart => exact ⟨0, Nat.zero_le _, rfl, rfl, Lib.hid (by simp), Kept.refl _ _⟩
  case round =>
    obtain ⟨j, hj, hf, rfl, hno, hwk⟩ := hrel
    by_cases hlt : j < keys.length
    · obtain ⟨pre, post, hpp, hpl⟩ := split_at hlt hl.out
      obtain ⟨kb, ko, c2, he2, _, _⟩ := H.out.at_ (by omega)
      cases he2
      have hkj := Lib.hid (hl.out (keys.getD j []) (by rw [getD_eq hlt]; exact List.getElem_mem _))
      have hrng := Lib.hid (Rd.elem (i := j) H.out hpp hpl (by omega))
      have Bk := Lib.hid (B3.out.kept hwk (by simp))
      have hrk := Lib.hid (Rd.elem (i := j) (H.out.kept0 hwk) hpp hpl (by omega))
      have hgd := Lib.hid (getD_eq hlt)
      generalize hky : keys.getD j [] = key at *
      replace hky := Lib.hid hky
      obtain ⟨bq, hbq⟩ : ∃ bq : Bool, (k == key) = bq := ⟨_, rfl⟩
      have q16 := eql_run hbq hk.out hkj.out
      have S0 : (Blk wr g3 26 (bv k).toArray ∧ wr.rangeAt kb (ko + j * 32) (bv key)) := ⟨Bk.out, hrk.out⟩
      go_wp2_with fail
      refine Txt.wp_textG [0, 4, 5] (fun u => Blk u g3 26 (bv k).toArray ∧ u.rangeAt kb (ko + j * 32) (bv key)) [[_, _, _, _, _, _]] (by kernel_rfl) (by kernel_rfl) rfl S0 (Txt.segs_cons ?_)
      go_wp2_with (first
        | ((with_reducible refine wpl_at 11 ?_); refine wpl_load_row (cs := (bv k).toArray) (o := ⟨some 11, _, _, _, _, _⟩) arrB.row rfl (.tmp 3) rfl rfl S0.1.drew (by simpa using hk.out) ?_)
        | ((with_reducible refine wpl_at 14 ?_); refine wpl_idxs (o := ⟨some 14, _, _, _, _, _⟩) keysT rfl (.tmp 12) (.tmp 13) rfl rfl rfl hlt ?_)
        | ((with_reducible refine wpl_at 15 ?_); refine wpl_loadp (o := ⟨some 15, _, _, _, _, _⟩) (cs := bv key) arrB.row rfl (.tmp 14) rfl rfl S0.2 (by simpa using hkj.out) ?_))
      refine ⟨rfl, S0, Txt.segs_nil ⟨⟨by kernel_rfl, ?_⟩, ?_⟩⟩
      · intro j hj o ho hw
        have hj2 : j = 0 ∨ j = 4 ∨ j = 5 := by simpa using hj
        rcases hj2 with rfl | rfl | rfl <;> cases ho
        · exact ⟨11, rfl, fun u hu => exec_load arrB.row (.tmp 3) rfl rfl hu.1 (by simpa using hk.out)⟩
        · exact ⟨15, rfl, fun u hu => exec_loadp arrB.row (.tmp 14) rfl rfl hu.2 (by simpa using hkj.out)⟩
        · exact ⟨16, rfl, fun u _ => exec_eqb (.tmp 11) (.tmp 15) rfl rfl rfl hbq hk.out hkj.out⟩
      have K2 := Lib.hid (KK.out.then0 hwk).drew
      have hw2 := Lib.hid hwk.drew
      have hb2 := Lib.hid hbq
      clear S0 hbq q16 hwk
      cases bq with
      | true =>
        go_wp2_with fail
        go_ret
        refine ⟨(j : Int), rfl, ⟨fun _ => ?_, fun _ => by omega⟩, K2.out⟩
        have : k = key := by simpa using hb2.out
        rw [this, ← hky.out, getD_eq hlt]
        exact List.getElem_mem _
      | false =>
        have hne : k ≠ key := by simpa using hb2.out
        have hno2 := Lib.hid (show k ∉ keys.take (j + 1) from by
          rw [List.take_succ_eq_append_getElem hlt, ← getD_eq hlt, hky.out]
          simp only [List.mem_append, List.mem_singleton]
          rintro (h | h)
          · exact hno.out h
          · exact hne h)
        go_wp2_with fail
        go_roundg (keys.length - (j + 1))
        case measure => omega
        case rel => exact ⟨j + 1, by omega, by omega, by go_num, hno2, hw2.out⟩
    · obtain rfl : j = keys.length := by omega
      have hno2 := Lib.hid (show k ∉ keys from by have := hno.out; rwa [List.take_length] at this)
      have K2 := Lib.hid (KK.out.then0 hwk)
      clear hwk
      go_wp2_with fail
      go_ret
      exact ⟨-1, rfl, ⟨fun h => absurd h (by decide), fun h => absurd h hno2.out⟩, K2.out⟩
set_option maxHeartbeats 1600000 in
theorem kcont_any (v : Value) (keys : List (List UInt8)) (k : List UInt8) (w : World) (hr : Rd w 32 v keys.length (keys.flatMap bv)) (hk : k.length = 32) (hl : ∀ x ∈ keys, x.length = 32) (hx : keys.length ≤ 1000000) :
    Calls Try.prog 39 #[v, ab k] w fun e w' => e = .returned (.bool (decide (k ∈ keys))) ∧ Kept [] w w' := by
  obtain ⟨KA, kc, rfl, _⟩ := id hr
  have H := Lib.hid hr
  have ci := Lib.hid (fun u (h : Rd u 32 (.slice KA keys.length kc) keys.length (keys.flatMap bv)) => kindex_any _ keys k u h hk hl hx)
  have hk := Lib.hid hk
  clear hr hl
  go_enter Try.func39, Try.ntmps39
  go_wp2_with (first
    | ((with_reducible refine wpl_at 3 ?_); (refine wpl_box (o := ⟨some 3, _, _, _, _, _⟩) (v := ab k) rfl (.tmp 1) rfl rfl ?_); intro g3 w3 m3; have B3 := Lib.hid (show Blk w3 g3 26 (bv k).toArray from m3.blk); have KK := Lib.hid m3.kept; replace H := Lib.hid (H.out.kept0 m3.kept); clear m3)
    | ((with_reducible refine wpl_at 6 ?_); refine wpl_load_row (cs := (bv k).toArray) (o := ⟨some 6, _, _, _, _, _⟩) arrB.row rfl (.tmp 3) rfl rfl B3.out (by simpa using hk.out) ?_)
    | (go_at_call 75; (with_reducible refine (ci.out _ H.out).mono ?_); rintro e v7 ⟨c, rfl, hc, k7⟩; have K7 := Lib.hid (KK.out.then0 k7); have hc := Lib.hid hc; clear k7))
  go_ret
  exact ⟨by rw [show decide (k ∈ keys) = decide (0 ≤ c) from decide_eq_decide.2 hc.out.symm]; rfl, K7.out⟩
end Go.Proofs.Ytdbngnlpafcogaa
