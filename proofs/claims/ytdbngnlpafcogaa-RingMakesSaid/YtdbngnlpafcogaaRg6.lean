/-
  The ring: New.
-/
import Derived.Test.YtdbngnlpafcogaaRg5
namespace Go.Proofs.Ytdbngnlpafcogaa
open Go.RowKit Go.Mem Go.Txt

/-- May there be such a ring? -/
structure Fits (keys : List (List UInt8)) : Prop where
  m : keys.length % 3 = 1
  few : keys.length ≤ 7
  nd : keys.Nodup
theorem take_rows {keys : List (List UInt8)} (h : ∀ k ∈ keys, k.length = 32) : ∀ j, j ≤ keys.length → (keys.flatMap bv).take (j * 32) = (keys.take j).flatMap bv := by
  induction keys with
  | nil => intro j hj; simp
  | cons a l ih =>
    intro j hj
    cases j with
    | zero => simp
    | succ j =>
      have ha := h a (by simp)
      rw [List.flatMap_cons, List.take_succ_cons, List.flatMap_cons, ← ih (fun k hk => h k (List.mem_cons_of_mem _ hk)) j (by simpa using hj)]
      rw [List.take_append, List.take_of_length_le (by simp [ha]; omega)]
      simp [ha, show (j + 1) * 32 - 32 = j * 32 from by omega]
theorem nodup_succ {keys : List (List UInt8)} {j : Nat} (h : j < keys.length) (hn : (keys.take j).Nodup) (hk : keys.getD j [] ∉ keys.take j) : (keys.take (j + 1)).Nodup := by
  rw [List.take_succ_eq_append_getElem h, ← getD_eq h]
  refine List.nodup_append.2 ⟨hn, by simp, ?_⟩
  intro a ha b hb
  rw [List.mem_singleton.1 hb]
  rintro rfl
  exact hk ha
theorem not_nodup {keys : List (List UInt8)} {j : Nat} (h : j < keys.length) (hk : keys.getD j [] ∈ keys.take j) : ¬ keys.Nodup := by
  intro hn
  rw [← List.take_append_drop j keys] at hn
  have hd := (List.nodup_append.1 hn).2.2
  refine hd _ hk _ ?_ rfl
  rw [List.drop_eq_getElem_cons h, getD_eq h]
  exact List.mem_cons_self
set_option maxRecDepth 100000 in
set_option maxHeartbeats 3200000 in
theorem rnew_bad (v : Value) (keys : List (List UInt8)) (w : World) (hr : Rd w 32 v keys.length (keys.flatMap bv)) (hb : ¬ (keys.length % 3 = 1 ∧ keys.length ≤ 7)) :
    Calls Try.prog 12 #[v] w fun e w' => e = .returned (.tuple #[.pointer none, .int .i64 2]) ∧ Kept [] w w' := by
  obtain ⟨KA, kc, rfl, _⟩ := id hr
  clear hr
  go_enter Try.func12, Try.ntmps12
  by_cases h3 : keys.length % 3 = 1
  · have h7 : ¬ (keys.length ≤ 7) := fun h => hb ⟨h3, h⟩
    have e3 : ((keys.length : Int).tmod 3 = 1) := by rw [Int.tmod_eq_emod_of_nonneg (by omega)]; omega
    have e7 : (7 : Int) < (keys.length : Int) := by omega
    clear hb
    go_wp2_with fail
    go_ret2
    exact ⟨rfl, Kept.refl _ _⟩
  · have e3 : ¬ ((keys.length : Int).tmod 3 = 1) := by rw [Int.tmod_eq_emod_of_nonneg (by omega)]; omega
    clear hb
    go_wp2_with fail
    go_ret2
    exact ⟨rfl, Kept.refl _ _⟩
set_option maxRecDepth 100000 in
set_option maxHeartbeats 3200000 in
theorem rnew_any (v : Value) (keys : List (List UInt8)) (w : World) (hr : Rd w 32 v keys.length (keys.flatMap bv)) (hl : ∀ x ∈ keys, x.length = 32) (hx : keys.length ≤ 1000000) (h3 : keys.length % 3 = 1) (h7 : keys.length ≤ 7) :
    Calls Try.prog 12 #[v] w fun e w' => (¬ keys.Nodup ∧ e = .returned (.tuple #[.pointer none, .int .i64 2]) ∧ Kept [] w w') ∨ (keys.Nodup ∧ ∃ r b kv, e = .returned (.tuple #[.pointer (some ⟨r, 0, none⟩), .int .i64 0]) ∧ Rg w' r kv keys b (.map []) ∧ Kept [] w w' ∧ w.heap.size ≤ b ∧ ∀ k, kv.ownBlock = some k → w.heap.size ≤ k) := by
  obtain ⟨kb, ko, kc, rfl, hkc, _⟩ := hr.at_ (by omega)
  have cl := Lib.hid (fun u h => kclone_any (.slice (some ⟨kb, ko, none⟩) keys.length kc) keys u h (by omega) hx)
  have H := Lib.hid hr
  have hl := Lib.hid hl
  have hfew := Lib.hid h7
  have e3 : ((keys.length : Int).tmod 3 = 1) := by rw [Int.tmod_eq_emod_of_nonneg (by omega)]; omega
  have e7 : ¬ ((7 : Int) < (keys.length : Int)) := by omega
  have hp := Lib.hid (show 0 < keys.length by omega)
  clear hr h3 h7
  go_enter Try.func12, Try.ntmps12
  go_wp2_with fail
  go_loopg [18] keys.length (fun f i wk => ∃ j : Nat, j ≤ keys.length ∧ f + j = keys.length ∧ i = .int .i64 j ∧ Hid ((keys.take j).Nodup) ∧ Kept [] w wk)
  case atStart => exact ⟨0, Nat.zero_le _, rfl, rfl, Lib.hid (by simp), Kept.refl _ _⟩
  case round =>
    obtain ⟨j, hj, hf, rfl, hnd, hwk⟩ := hrel
    by_cases hlt : j < keys.length
    · obtain ⟨pre, post, hpp, hpl⟩ := split_at hlt hl.out
      have hkj := Lib.hid (hl.out (keys.getD j []) (by rw [getD_eq hlt]; exact List.getElem_mem _))
      have hrk := Lib.hid (Rd.elem (i := j) (H.out.kept0 hwk) hpp hpl (by omega))
      have hB := run_uptoS (g := kb) (off := ko) (n := keys.length) keysT .i64 (k := j) (c := kc) (by omega)
      have hlj : (keys.take j).length = j := by rw [List.length_take]; omega
      have hRj := Lib.hid (fun u (hu : Rd u 32 (.slice (some ⟨kb, ko, none⟩) keys.length kc) keys.length (keys.flatMap bv)) => (show Rd u 32 (.slice (some ⟨kb, ko, none⟩) j kc) (keys.take j).length ((keys.take j).flatMap bv) from by
        obtain ⟨B, d, h1, h2, _, _⟩ := cut_to keysT hu .i64 j (by omega)
        have := h1 u
        rw [hB] at this
        cases this
        rw [hlj, ← take_rows hl.out j (by omega)]
        exact h2))
      have hcc := Lib.hid (fun u (hu : Rd u 32 (.slice (some ⟨kb, ko, none⟩) keys.length kc) keys.length (keys.flatMap bv)) => kcont_any (.slice (some ⟨kb, ko, none⟩) j kc) (keys.take j) (keys.getD j []) u (hRj.out u hu) hkj.out (fun x hx => hl.out x (List.mem_of_mem_take hx)) (by rw [hlj]; omega))
      have hs1 := Lib.hid (nodup_succ hlt hnd.out)
      have hs2 := Lib.hid (not_nodup hlt)
      have hwk2 := Lib.hid hwk
      obtain ⟨bq, hbq⟩ : ∃ bq : Bool, decide (keys.getD j [] ∈ keys.take j) = bq := ⟨_, rfl⟩
      replace hbq := Lib.hid hbq
      have hcc2 := Lib.hid (fun u hu => by have := hcc.out u hu; rw [hbq.out] at this; exact this)
      generalize hky : keys.getD j [] = key at *
      clear hRj hlj hcc hwk hpp hpl hky
      go_wp2_with (first
        | ((with_reducible refine wpl_at 21 ?_); refine wpl_idxs (o := ⟨some 21, _, _, _, _, _⟩) keysT rfl (.tmp 16) (.tmp 18) rfl rfl rfl hlt ?_)
        | ((with_reducible refine wpl_at 22 ?_); refine wpl_loadp (o := ⟨some 22, _, _, _, _, _⟩) (cs := bv key) arrB.row rfl (.tmp 21) rfl rfl hrk.out (by simpa using hkj.out) ?_)
        | ((with_reducible refine wpl_at 6 ?_); (refine wpl_new (o := ⟨some 6, _, _, _, _, _⟩) rfl rfl zeroB ?_); intro g6 w6 m6; have M6 := Lib.hid m6; clear m6)
        | (refine wpl_store_row (cs := (bv key).toArray) (o := ⟨none, Op.store 26 (.tmp 6) (.tmp 22), _, _, _, _⟩) arrB.row rfl (.tmp 6) (.tmp 22) rfl rfl rfl M6.out.blk (by rfl) (by simpa using hkj.out) (one_ab _) ?_
           intro wb6 b6 k6
           have kk := M6.out.kept.then1 k6 M6.out.le
           have B6 := Lib.hid b6
           replace hwk2 := Lib.hid (hwk2.out.then0 kk)
           clear b6 k6 kk M6 hrk))
      have H6 := Lib.hid (H.out.kept0 hwk2.out.drew)
      refine Txt.wp_text (by kernel_rfl) (by kernel_rfl) ?_
      go_wp2_with (first
        | ((with_reducible refine wpl_at 26 ?_); refine wpl_load_row (cs := (bv key).toArray) (o := ⟨some 26, _, _, _, _, _⟩) arrB.row rfl (.tmp 6) rfl rfl B6.out.drew (by simpa using hkj.out) ?_)
        | (go_at_call 39; (with_reducible refine (hcc2.out _ H6.out).mono ?_); rintro e v27 ⟨rfl, k27⟩
           have K27 := Lib.hid (hwk2.out.then0 k27.from_drew)
           clear k27))
      refine ⟨rfl, by kernel_rfl, ?_⟩
      cases bq with
      | true =>
        go_wp2_with fail
        go_ret2
        exact .inl ⟨hs2.out (by simpa using hbq.out), rfl, K27.out⟩
      | false =>
        have hnx := Lib.hid (hs1.out (by simpa using hbq.out))
        go_wp2_with fail
        go_roundg (keys.length - (j + 1))
        case measure => omega
        case rel => exact ⟨j + 1, by omega, by omega, by go_num, hnx, K27.out⟩
    · obtain rfl : j = keys.length := by omega
      have hno2 := Lib.hid (show keys.Nodup from by have := hnd.out; rwa [List.take_length] at this)
      have K2 := Lib.hid hwk
      have H2 := Lib.hid (H.out.kept0 hwk)
      clear hwk
      go_wp2_with (first
        | (go_at_call 40; (with_reducible refine (cl.out _ H2.out).mono ?_); rintro e v30 ⟨kv, rfl, r30, k30, f30⟩
           have F30 := Lib.hid (fun k h => Nat.le_trans K2.out.size (f30 k h))
           clear f30
           obtain ⟨KA2, kc2, rfl, _⟩ := id r30
           have R30 := Lib.hid r30
           have mk := run_makeMap (P := Try.prog) 91
           have K30 := Lib.hid (K2.out.then0 k30)
           clear r30 k30)
        | ((with_reducible refine wpl_at 33 ?_)
           have KM := Lib.hid ((Kept.refl [] v30).alloc (.map #[] 0))
           have MM := Lib.hid (show oM (v30.alloc (.map #[] 0)) v30.heap.size 0 (.map []) from World.ownsMap_made v30 _ _ _)
           refine wpl_box (o := ⟨some 33, _, _, _, _, _⟩) (v := .agg #[.slice KA2 keys.length kc2, .map (some v30.heap.size)]) rfl (.tmp 32) rfl rfl ?_
           intro g33 w33 m33
           have M33 := Lib.hid m33
           clear m33))
      go_ret2
      have kk := KM.out.then0 M33.out.kept
      refine .inr ⟨hno2.out, _, _, _, rfl, ⟨M33.out.blk, R30.out.kept0 kk, hl.out, hfew.out, ⟨0, MM.out.kept M33.out.kept (by simp)⟩, fun s => .inl rfl, Maps.isMap_empty⟩, K30.out.then0 kk, K30.out.size, F30.out⟩
end Go.Proofs.Ytdbngnlpafcogaa
