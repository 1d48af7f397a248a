/-
  The document's ring: Fits.
-/
import Derived.Test.YtdbngnlpafcogaaRg10
namespace Go.Proofs.Ytdbngnlpafcogaa
open Go.RowKit Go.Mem Go.Txt

theorem fits_iff (keys : List (List UInt8)) : (keys.length % 3 = 1 ∧ keys.length ≤ 7) ↔ (keys.length = 1 ∨ keys.length = 4 ∨ keys.length = 7) := by omega
set_option maxRecDepth 100000 in
set_option maxHeartbeats 1600000 in
theorem rfits_bad (v : Value) (keys : List (List UInt8)) (w : World) (hr : Rd w 32 v keys.length (keys.flatMap bv)) (hb : ¬ (keys.length % 3 = 1 ∧ keys.length ≤ 7)) :
    Calls Try.prog 18 #[v] w fun e w' => e = .returned (.bool false) ∧ Kept [] w w' := by
  obtain ⟨KA, kc, rfl, _⟩ := id hr
  clear hr
  have h1 : ((keys.length : Int) != 1) = true := by rw [bne_iff_ne]; omega
  have h4 : ((keys.length : Int) != 4) = true := by rw [bne_iff_ne]; omega
  have h7 : ((keys.length : Int) != 7) = true := by rw [bne_iff_ne]; omega
  clear hb
  go_enter Try.func18, Try.ntmps18
  go_wp2_with fail
  go_ret
  exact ⟨rfl, Kept.refl _ _⟩
set_option maxRecDepth 100000 in
set_option maxHeartbeats 3200000 in
theorem rfits_1 (v : Value) (keys : List (List UInt8)) (w : World) (hr : Rd w 32 v keys.length (keys.flatMap bv)) (hl : ∀ x ∈ keys, x.length = 32) (hL : keys.length = 1) :
    Calls Try.prog 18 #[v] w fun e w' => e = .returned (.bool (decide keys.Nodup)) ∧ Kept [] w w' := by
  obtain ⟨kb, ko, kc, rfl, hkc, _⟩ := hr.at_ (by omega)
  rw [hL] at hr ⊢
  have H := Lib.hid hr
  have hl := Lib.hid hl
  have hL2 := Lib.hid hL
  clear hr hL hkc
  go_enter Try.func18, Try.ntmps18
  go_wp2_with fail
  go_loopg [20] 1 (fun f i wk => ∃ j : Nat, j ≤ 1 ∧ f + j = 1 ∧ i = .int .i64 j ∧ Hid ((keys.take j).Nodup) ∧ Kept [] w wk)
  case atStart => exact ⟨0, Nat.zero_le _, rfl, rfl, Lib.hid (by simp), Kept.refl _ _⟩
  case round =>
    obtain ⟨j, hj, hf, rfl, hnd, hwk⟩ := hrel
    by_cases hlt : j < 1
    · have hltk := Lib.hid (show j < keys.length by rw [hL2.out]; exact hlt)
      obtain ⟨pre, post, hpp, hpl⟩ := split_at hltk.out hl.out
      have hkj := Lib.hid (hl.out (keys.getD j []) (by rw [getD_eq hltk.out]; exact List.getElem_mem _))
      have hej := Lib.hid (fun u (hu : Rd u 32 (.slice (some ⟨kb, ko, none⟩) 1 kc) 1 (keys.flatMap bv)) => Rd.elem (i := j) hu hpp hpl (by omega))
      have hs1 := Lib.hid (nodup_succ hltk.out hnd.out)
      have hs2 := Lib.hid (not_nodup hltk.out)
      have hwk2 := Lib.hid hwk
      generalize hky : keys.getD j [] = key at *
      clear hwk hpp hpl hky
      go_wp2_with fail
      rw [show decide ((j : Int) < 1) = true from decide_eq_true (by omega)]
      go_loopg [5] j (fun f i wk => ∃ m : Nat, m ≤ j ∧ f + m = j ∧ i = .int .i64 m ∧ Hid (key ∉ keys.take m) ∧ Kept [] w wk)
      case atStart => exact ⟨0, Nat.zero_le _, by omega, rfl, Lib.hid (by simp), hwk2.out⟩
      case round =>
        obtain ⟨m, hm, hfm, rfl, hno, hwk3⟩ := hrel
        by_cases hmj : m < j
        · have hmk := Lib.hid (show m < keys.length by have := hltk.out; omega)
          obtain ⟨pre2, post2, hpp2, hpl2⟩ := split_at hmk.out hl.out
          have hkm := Lib.hid (hl.out (keys.getD m []) (by rw [getD_eq hmk.out]; exact List.getElem_mem _))
          have hem := Lib.hid (Rd.elem (i := m) (H.out.kept0 hwk3) hpp2 hpl2 (by omega))
          have hej2 := Lib.hid (hej.out _ (H.out.kept0 hwk3))
          obtain ⟨bq, hbq⟩ : ∃ bq : Bool, (key == keys.getD m []) = bq := ⟨_, rfl⟩
          have hgm := Lib.hid (getD_eq hmk.out)
          generalize hky2 : keys.getD m [] = key2 at *
          have q36 := eql_run hbq hkj.out hkm.out
          have S0 : (wr.rangeAt kb (ko + j * 32) (bv key) ∧ wr.rangeAt kb (ko + m * 32) (bv key2)) := ⟨hej2.out, hem.out⟩
          replace hky2 := Lib.hid hky2
          have hw4 := Lib.hid hwk3.drew
          clear hwk3 hpp2 hpl2
          go_wp2_with fail
          refine Txt.wp_textG [3, 7, 8] (fun u => u.rangeAt kb (ko + j * 32) (bv key) ∧ u.rangeAt kb (ko + m * 32) (bv key2)) [[_, _, _, _, _, _, _, _, _]] (by kernel_rfl) (by kernel_rfl) rfl S0 (Txt.segs_cons ?_)
          go_wp2_with (first
            | ((with_reducible refine wpl_at 30 ?_); refine wpl_idxs (o := ⟨some 30, _, _, _, _, _⟩) keysT rfl (.tmp 28) (.tmp 29) rfl rfl rfl hlt ?_)
            | ((with_reducible refine wpl_at 31 ?_); refine wpl_loadp (o := ⟨some 31, _, _, _, _, _⟩) (cs := bv key) arrB.row rfl (.tmp 30) rfl rfl S0.1 (by simpa using hkj.out) ?_)
            | ((with_reducible refine wpl_at 34 ?_); refine wpl_idxs (o := ⟨some 34, _, _, _, _, _⟩) keysT rfl (.tmp 32) (.tmp 33) rfl rfl rfl (Nat.lt_trans hmj hlt) ?_)
            | ((with_reducible refine wpl_at 35 ?_); refine wpl_loadp (o := ⟨some 35, _, _, _, _, _⟩) (cs := bv key2) arrB.row rfl (.tmp 34) rfl rfl S0.2 (by simpa using hkm.out) ?_))
          refine ⟨rfl, S0, Txt.segs_nil ⟨⟨by kernel_rfl, ?_⟩, ?_⟩⟩
          · intro j hj o ho hw
            have hj2 : j = 3 ∨ j = 7 ∨ j = 8 := by simpa using hj
            rcases hj2 with rfl | rfl | rfl <;> cases ho
            · exact ⟨31, rfl, fun u hu => exec_loadp arrB.row (.tmp 30) rfl rfl hu.1 (by simpa using hkj.out)⟩
            · exact ⟨35, rfl, fun u hu => exec_loadp arrB.row (.tmp 34) rfl rfl hu.2 (by simpa using hkm.out)⟩
            · exact ⟨36, rfl, fun u _ => exec_eqb (.tmp 31) (.tmp 35) rfl rfl rfl hbq hkj.out hkm.out⟩
          have hb2 := Lib.hid hbq
          clear S0 hbq q36
          have hmem := Lib.hid (show key2 ∈ keys.take j from by
            rw [hgm.out]
            exact List.mem_take_iff_getElem.2 ⟨m, by have := hmk.out; omega, rfl⟩)
          cases bq with
          | true =>
            have hin := Lib.hid (hs2.out (by
              have : key = key2 := by simpa using hb2.out
              rw [this]
              exact hmem.out))
            go_wp2_with fail
            go_ret
            exact ⟨by rw [decide_eq_false hin.out]; rfl, hw4.out⟩
          | false =>
            have hne : key ≠ key2 := by simpa using hb2.out
            have hno2 := Lib.hid (show key ∉ keys.take (m + 1) from by
              rw [List.take_succ_eq_append_getElem hmk.out, ← hgm.out]
              simp only [List.mem_append, List.mem_singleton]
              rintro (h | h)
              · exact hno.out h
              · exact hne h)
            go_wp2_with fail
            go_roundg (j - (m + 1))
            case measure => omega
            case rel => exact ⟨m + 1, by omega, by omega, by go_num, hno2, hw4.out⟩
        · obtain rfl : m = j := by omega
          have hnx := Lib.hid (hs1.out hno.out)
          have hw4 := Lib.hid hwk3
          clear hwk3
          go_wp2_with fail
          go_roundg (1 - (m + 1))
          case measure => omega
          case rel => exact ⟨m + 1, by omega, by omega, by go_num, hnx, hw4.out⟩
    · obtain rfl : j = 1 := by omega
      have hno2 := Lib.hid (show keys.Nodup from by have := hnd.out; rwa [← hL2.out, List.take_length] at this)
      have K2 := Lib.hid hwk
      clear hwk
      go_wp2_with fail
      go_ret
      exact ⟨by rw [decide_eq_true hno2.out]; rfl, K2.out⟩
set_option maxRecDepth 100000 in
set_option maxHeartbeats 3200000 in
theorem rfits_4 (v : Value) (keys : List (List UInt8)) (w : World) (hr : Rd w 32 v keys.length (keys.flatMap bv)) (hl : ∀ x ∈ keys, x.length = 32) (hL : keys.length = 4) :
    Calls Try.prog 18 #[v] w fun e w' => e = .returned (.bool (decide keys.Nodup)) ∧ Kept [] w w' := by
  obtain ⟨kb, ko, kc, rfl, hkc, _⟩ := hr.at_ (by omega)
  rw [hL] at hr ⊢
  have H := Lib.hid hr
  have hl := Lib.hid hl
  have hL2 := Lib.hid hL
  clear hr hL hkc
  go_enter Try.func18, Try.ntmps18
  go_wp2_with fail
  go_loopg [20] 4 (fun f i wk => ∃ j : Nat, j ≤ 4 ∧ f + j = 4 ∧ i = .int .i64 j ∧ Hid ((keys.take j).Nodup) ∧ Kept [] w wk)
  case atStart => exact ⟨0, Nat.zero_le _, rfl, rfl, Lib.hid (by simp), Kept.refl _ _⟩
  case round =>
    obtain ⟨j, hj, hf, rfl, hnd, hwk⟩ := hrel
    by_cases hlt : j < 4
    · have hltk := Lib.hid (show j < keys.length by rw [hL2.out]; exact hlt)
      obtain ⟨pre, post, hpp, hpl⟩ := split_at hltk.out hl.out
      have hkj := Lib.hid (hl.out (keys.getD j []) (by rw [getD_eq hltk.out]; exact List.getElem_mem _))
      have hej := Lib.hid (fun u (hu : Rd u 32 (.slice (some ⟨kb, ko, none⟩) 4 kc) 4 (keys.flatMap bv)) => Rd.elem (i := j) hu hpp hpl (by omega))
      have hs1 := Lib.hid (nodup_succ hltk.out hnd.out)
      have hs2 := Lib.hid (not_nodup hltk.out)
      have hwk2 := Lib.hid hwk
      generalize hky : keys.getD j [] = key at *
      clear hwk hpp hpl hky
      go_wp2_with fail
      rw [show decide ((j : Int) < 4) = true from decide_eq_true (by omega)]
      go_loopg [5] j (fun f i wk => ∃ m : Nat, m ≤ j ∧ f + m = j ∧ i = .int .i64 m ∧ Hid (key ∉ keys.take m) ∧ Kept [] w wk)
      case atStart => exact ⟨0, Nat.zero_le _, by omega, rfl, Lib.hid (by simp), hwk2.out⟩
      case round =>
        obtain ⟨m, hm, hfm, rfl, hno, hwk3⟩ := hrel
        by_cases hmj : m < j
        · have hmk := Lib.hid (show m < keys.length by have := hltk.out; omega)
          obtain ⟨pre2, post2, hpp2, hpl2⟩ := split_at hmk.out hl.out
          have hkm := Lib.hid (hl.out (keys.getD m []) (by rw [getD_eq hmk.out]; exact List.getElem_mem _))
          have hem := Lib.hid (Rd.elem (i := m) (H.out.kept0 hwk3) hpp2 hpl2 (by omega))
          have hej2 := Lib.hid (hej.out _ (H.out.kept0 hwk3))
          obtain ⟨bq, hbq⟩ : ∃ bq : Bool, (key == keys.getD m []) = bq := ⟨_, rfl⟩
          have hgm := Lib.hid (getD_eq hmk.out)
          generalize hky2 : keys.getD m [] = key2 at *
          have q36 := eql_run hbq hkj.out hkm.out
          have S0 : (wr.rangeAt kb (ko + j * 32) (bv key) ∧ wr.rangeAt kb (ko + m * 32) (bv key2)) := ⟨hej2.out, hem.out⟩
          replace hky2 := Lib.hid hky2
          have hw4 := Lib.hid hwk3.drew
          clear hwk3 hpp2 hpl2
          go_wp2_with fail
          refine Txt.wp_textG [3, 7, 8] (fun u => u.rangeAt kb (ko + j * 32) (bv key) ∧ u.rangeAt kb (ko + m * 32) (bv key2)) [[_, _, _, _, _, _, _, _, _]] (by kernel_rfl) (by kernel_rfl) rfl S0 (Txt.segs_cons ?_)
          go_wp2_with (first
            | ((with_reducible refine wpl_at 30 ?_); refine wpl_idxs (o := ⟨some 30, _, _, _, _, _⟩) keysT rfl (.tmp 28) (.tmp 29) rfl rfl rfl hlt ?_)
            | ((with_reducible refine wpl_at 31 ?_); refine wpl_loadp (o := ⟨some 31, _, _, _, _, _⟩) (cs := bv key) arrB.row rfl (.tmp 30) rfl rfl S0.1 (by simpa using hkj.out) ?_)
            | ((with_reducible refine wpl_at 34 ?_); refine wpl_idxs (o := ⟨some 34, _, _, _, _, _⟩) keysT rfl (.tmp 32) (.tmp 33) rfl rfl rfl (Nat.lt_trans hmj hlt) ?_)
            | ((with_reducible refine wpl_at 35 ?_); refine wpl_loadp (o := ⟨some 35, _, _, _, _, _⟩) (cs := bv key2) arrB.row rfl (.tmp 34) rfl rfl S0.2 (by simpa using hkm.out) ?_))
          refine ⟨rfl, S0, Txt.segs_nil ⟨⟨by kernel_rfl, ?_⟩, ?_⟩⟩
          · intro j hj o ho hw
            have hj2 : j = 3 ∨ j = 7 ∨ j = 8 := by simpa using hj
            rcases hj2 with rfl | rfl | rfl <;> cases ho
            · exact ⟨31, rfl, fun u hu => exec_loadp arrB.row (.tmp 30) rfl rfl hu.1 (by simpa using hkj.out)⟩
            · exact ⟨35, rfl, fun u hu => exec_loadp arrB.row (.tmp 34) rfl rfl hu.2 (by simpa using hkm.out)⟩
            · exact ⟨36, rfl, fun u _ => exec_eqb (.tmp 31) (.tmp 35) rfl rfl rfl hbq hkj.out hkm.out⟩
          have hb2 := Lib.hid hbq
          clear S0 hbq q36
          have hmem := Lib.hid (show key2 ∈ keys.take j from by
            rw [hgm.out]
            exact List.mem_take_iff_getElem.2 ⟨m, by have := hmk.out; omega, rfl⟩)
          cases bq with
          | true =>
            have hin := Lib.hid (hs2.out (by
              have : key = key2 := by simpa using hb2.out
              rw [this]
              exact hmem.out))
            go_wp2_with fail
            go_ret
            exact ⟨by rw [decide_eq_false hin.out]; rfl, hw4.out⟩
          | false =>
            have hne : key ≠ key2 := by simpa using hb2.out
            have hno2 := Lib.hid (show key ∉ keys.take (m + 1) from by
              rw [List.take_succ_eq_append_getElem hmk.out, ← hgm.out]
              simp only [List.mem_append, List.mem_singleton]
              rintro (h | h)
              · exact hno.out h
              · exact hne h)
            go_wp2_with fail
            go_roundg (j - (m + 1))
            case measure => omega
            case rel => exact ⟨m + 1, by omega, by omega, by go_num, hno2, hw4.out⟩
        · obtain rfl : m = j := by omega
          have hnx := Lib.hid (hs1.out hno.out)
          have hw4 := Lib.hid hwk3
          clear hwk3
          go_wp2_with fail
          go_roundg (4 - (m + 1))
          case measure => omega
          case rel => exact ⟨m + 1, by omega, by omega, by go_num, hnx, hw4.out⟩
    · obtain rfl : j = 4 := by omega
      have hno2 := Lib.hid (show keys.Nodup from by have := hnd.out; rwa [← hL2.out, List.take_length] at this)
      have K2 := Lib.hid hwk
      clear hwk
      go_wp2_with fail
      go_ret
      exact ⟨by rw [decide_eq_true hno2.out]; rfl, K2.out⟩
set_option maxRecDepth 100000 in
set_option maxHeartbeats 3200000 in
theorem rfits_7 (v : Value) (keys : List (List UInt8)) (w : World) (hr : Rd w 32 v keys.length (keys.flatMap bv)) (hl : ∀ x ∈ keys, x.length = 32) (hL : keys.length = 7) :
    Calls Try.prog 18 #[v] w fun e w' => e = .returned (.bool (decide keys.Nodup)) ∧ Kept [] w w' := by
  obtain ⟨kb, ko, kc, rfl, hkc, _⟩ := hr.at_ (by omega)
  rw [hL] at hr ⊢
  have H := Lib.hid hr
  have hl := Lib.hid hl
  have hL2 := Lib.hid hL
  clear hr hL hkc
  go_enter Try.func18, Try.ntmps18
  go_wp2_with fail
  go_loopg [20] 7 (fun f i wk => ∃ j : Nat, j ≤ 7 ∧ f + j = 7 ∧ i = .int .i64 j ∧ Hid ((keys.take j).Nodup) ∧ Kept [] w wk)
  case atStart => exact ⟨0, Nat.zero_le _, rfl, rfl, Lib.hid (by simp), Kept.refl _ _⟩
  case round =>
    obtain ⟨j, hj, hf, rfl, hnd, hwk⟩ := hrel
    by_cases hlt : j < 7
    · have hltk := Lib.hid (show j < keys.length by rw [hL2.out]; exact hlt)
      obtain ⟨pre, post, hpp, hpl⟩ := split_at hltk.out hl.out
      have hkj := Lib.hid (hl.out (keys.getD j []) (by rw [getD_eq hltk.out]; exact List.getElem_mem _))
      have hej := Lib.hid (fun u (hu : Rd u 32 (.slice (some ⟨kb, ko, none⟩) 7 kc) 7 (keys.flatMap bv)) => Rd.elem (i := j) hu hpp hpl (by omega))
      have hs1 := Lib.hid (nodup_succ hltk.out hnd.out)
      have hs2 := Lib.hid (not_nodup hltk.out)
      have hwk2 := Lib.hid hwk
      generalize hky : keys.getD j [] = key at *
      clear hwk hpp hpl hky
      go_wp2_with fail
      rw [show decide ((j : Int) < 7) = true from decide_eq_true (by omega)]
      go_loopg [5] j (fun f i wk => ∃ m : Nat, m ≤ j ∧ f + m = j ∧ i = .int .i64 m ∧ Hid (key ∉ keys.take m) ∧ Kept [] w wk)
      case atStart => exact ⟨0, Nat.zero_le _, by omega, rfl, Lib.hid (by simp), hwk2.out⟩
      case round =>
        obtain ⟨m, hm, hfm, rfl, hno, hwk3⟩ := hrel
        by_cases hmj : m < j
        · have hmk := Lib.hid (show m < keys.length by have := hltk.out; omega)
          obtain ⟨pre2, post2, hpp2, hpl2⟩ := split_at hmk.out hl.out
          have hkm := Lib.hid (hl.out (keys.getD m []) (by rw [getD_eq hmk.out]; exact List.getElem_mem _))
          have hem := Lib.hid (Rd.elem (i := m) (H.out.kept0 hwk3) hpp2 hpl2 (by omega))
          have hej2 := Lib.hid (hej.out _ (H.out.kept0 hwk3))
          obtain ⟨bq, hbq⟩ : ∃ bq : Bool, (key == keys.getD m []) = bq := ⟨_, rfl⟩
          have hgm := Lib.hid (getD_eq hmk.out)
          generalize hky2 : keys.getD m [] = key2 at *
          have q36 := eql_run hbq hkj.out hkm.out
          have S0 : (wr.rangeAt kb (ko + j * 32) (bv key) ∧ wr.rangeAt kb (ko + m * 32) (bv key2)) := ⟨hej2.out, hem.out⟩
          replace hky2 := Lib.hid hky2
          have hw4 := Lib.hid hwk3.drew
          clear hwk3 hpp2 hpl2
          go_wp2_with fail
          refine Txt.wp_textG [3, 7, 8] (fun u => u.rangeAt kb (ko + j * 32) (bv key) ∧ u.rangeAt kb (ko + m * 32) (bv key2)) [[_, _, _, _, _, _, _, _, _]] (by kernel_rfl) (by kernel_rfl) rfl S0 (Txt.segs_cons ?_)
          go_wp2_with (first
            | ((with_reducible refine wpl_at 30 ?_); refine wpl_idxs (o := ⟨some 30, _, _, _, _, _⟩) keysT rfl (.tmp 28) (.tmp 29) rfl rfl rfl hlt ?_)
            | ((with_reducible refine wpl_at 31 ?_); refine wpl_loadp (o := ⟨some 31, _, _, _, _, _⟩) (cs := bv key) arrB.row rfl (.tmp 30) rfl rfl S0.1 (by simpa using hkj.out) ?_)
            | ((with_reducible refine wpl_at 34 ?_); refine wpl_idxs (o := ⟨some 34, _, _, _, _, _⟩) keysT rfl (.tmp 32) (.tmp 33) rfl rfl rfl (Nat.lt_trans hmj hlt) ?_)
            | ((with_reducible refine wpl_at 35 ?_); refine wpl_loadp (o := ⟨some 35, _, _, _, _, _⟩) (cs := bv key2) arrB.row rfl (.tmp 34) rfl rfl S0.2 (by simpa using hkm.out) ?_))
          refine ⟨rfl, S0, Txt.segs_nil ⟨⟨by kernel_rfl, ?_⟩, ?_⟩⟩
          · intro j hj o ho hw
            have hj2 : j = 3 ∨ j = 7 ∨ j = 8 := by simpa using hj
            rcases hj2 with rfl | rfl | rfl <;> cases ho
            · exact ⟨31, rfl, fun u hu => exec_loadp arrB.row (.tmp 30) rfl rfl hu.1 (by simpa using hkj.out)⟩
            · exact ⟨35, rfl, fun u hu => exec_loadp arrB.row (.tmp 34) rfl rfl hu.2 (by simpa using hkm.out)⟩
            · exact ⟨36, rfl, fun u _ => exec_eqb (.tmp 31) (.tmp 35) rfl rfl rfl hbq hkj.out hkm.out⟩
          have hb2 := Lib.hid hbq
          clear S0 hbq q36
          have hmem := Lib.hid (show key2 ∈ keys.take j from by
            rw [hgm.out]
            exact List.mem_take_iff_getElem.2 ⟨m, by have := hmk.out; omega, rfl⟩)
          cases bq with
          | true =>
            have hin := Lib.hid (hs2.out (by
              have : key = key2 := by simpa using hb2.out
              rw [this]
              exact hmem.out))
            go_wp2_with fail
            go_ret
            exact ⟨by rw [decide_eq_false hin.out]; rfl, hw4.out⟩
          | false =>
            have hne : key ≠ key2 := by simpa using hb2.out
            have hno2 := Lib.hid (show key ∉ keys.take (m + 1) from by
              rw [List.take_succ_eq_append_getElem hmk.out, ← hgm.out]
              simp only [List.mem_append, List.mem_singleton]
              rintro (h | h)
              · exact hno.out h
              · exact hne h)
            go_wp2_with fail
            go_roundg (j - (m + 1))
            case measure => omega
            case rel => exact ⟨m + 1, by omega, by omega, by go_num, hno2, hw4.out⟩
        · obtain rfl : m = j := by omega
          have hnx := Lib.hid (hs1.out hno.out)
          have hw4 := Lib.hid hwk3
          clear hwk3
          go_wp2_with fail
          go_roundg (7 - (m + 1))
          case measure => omega
          case rel => exact ⟨m + 1, by omega, by omega, by go_num, hnx, hw4.out⟩
    · obtain rfl : j = 7 := by omega
      have hno2 := Lib.hid (show keys.Nodup from by have := hnd.out; rwa [← hL2.out, List.take_length] at this)
      have K2 := Lib.hid hwk
      clear hwk
      go_wp2_with fail
      go_ret
      exact ⟨by rw [decide_eq_true hno2.out]; rfl, K2.out⟩
theorem rfits_any (v : Value) (keys : List (List UInt8)) (w : World) (hr : Rd w 32 v keys.length (keys.flatMap bv)) (hl : ∀ x ∈ keys, x.length = 32) (h3 : keys.length % 3 = 1 ∧ keys.length ≤ 7) :
    Calls Try.prog 18 #[v] w fun e w' => e = .returned (.bool (decide keys.Nodup)) ∧ Kept [] w w' := by
  rcases (fits_iff keys).1 h3 with h | h | h
  · exact rfits_1 v keys w hr hl h
  · exact rfits_4 v keys w hr hl h
  · exact rfits_7 v keys w hr hl h
end Go.Proofs.Ytdbngnlpafcogaa
