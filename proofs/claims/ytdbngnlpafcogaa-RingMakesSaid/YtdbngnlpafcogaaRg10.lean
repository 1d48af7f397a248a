/-
  The ring: Key; a ring that is none; the document's Fits.
-/
import Derived.Test.YtdbngnlpafcogaaRg8
namespace Go.Proofs.Ytdbngnlpafcogaa
open Go.RowKit Go.Mem Go.Txt

theorem lit0_v : Value.agg #[.int .u8 0, .int .u8 0, .int .u8 0, .int .u8 0, .int .u8 0, .int .u8 0, .int .u8 0, .int .u8 0, .int .u8 0, .int .u8 0, .int .u8 0, .int .u8 0, .int .u8 0, .int .u8 0, .int .u8 0, .int .u8 0, .int .u8 0, .int .u8 0, .int .u8 0, .int .u8 0, .int .u8 0, .int .u8 0, .int .u8 0, .int .u8 0, .int .u8 0, .int .u8 0, .int .u8 0, .int .u8 0, .int .u8 0, .int .u8 0, .int .u8 0, .int .u8 0] = ab (noughts 32) := rfl
set_option maxRecDepth 100000 in
set_option maxHeartbeats 3200000 in
theorem key_out {w : World} {r b : Nat} {kv : Value} {keys : List (List UInt8)} {D : DU} (h : Rg w r kv keys b D) (i : Int) (hi : i < 0 ∨ (keys.length : Int) ≤ i) :
    Calls Try.prog 22 #[.pointer (some ⟨r, 0, none⟩), .int .i64 i] w fun e w' => e = .returned (ab (noughts 32)) ∧ Kept [] w w' := by
  obtain ⟨KA, kc, e0, _⟩ := h.rows
  subst e0
  have H := Lib.hid h
  have l0 := lit0_v
  clear h
  go_enter Try.func22, Try.ntmps22
  by_cases h0 : i < 0
  · clear hi
    go_wp2_with (first
      | ((with_reducible refine wpl_at 4 ?_); (refine wpl_new (o := ⟨some 4, _, _, _, _, _⟩) rfl rfl zeroB ?_); intro g4 w4 m4
         have B4 := Lib.hid m4.blk
         have KK := Lib.hid m4.kept
         have L4 := Lib.hid m4.le
         replace H := Lib.hid (H.out.kept m4.kept)
         have q0 : w4.cell? ⟨r, 0, none⟩ = some (.slice KA keys.length kc) := by rw [H.out.blk.cell]; rfl
         clear m4)
      | (go_at_call 19; (with_reducible refine (size_any H.out).mono ?_); rintro e v ⟨rfl, rfl⟩)
      | ((refine wpl_store_row (cs := (bv (noughts 32)).toArray) (o := ⟨none, Op.store 26 (.tmp 4) (.tmp 13), _, _, _, _⟩) arrB.row rfl (.tmp 4) (.tmp 13) rfl rfl rfl B4.out (by rfl) (by rfl) (one_ab _) ?_); intro wz bz kz))
    exact ret_row arrB.row rfl rfl bz (by rfl) rfl ⟨rfl, KK.out.then1 kz L4.out⟩
  · have h1 : (keys.length : Int) ≤ i := hi.resolve_left h0
    clear hi
    go_wp2_with (first
      | ((with_reducible refine wpl_at 4 ?_); (refine wpl_new (o := ⟨some 4, _, _, _, _, _⟩) rfl rfl zeroB ?_); intro g4 w4 m4
         have B4 := Lib.hid m4.blk
         have KK := Lib.hid m4.kept
         have L4 := Lib.hid m4.le
         replace H := Lib.hid (H.out.kept m4.kept)
         have q0 : w4.cell? ⟨r, 0, none⟩ = some (.slice KA keys.length kc) := by rw [H.out.blk.cell]; rfl
         clear m4)
      | (go_at_call 19; (with_reducible refine (size_any H.out).mono ?_); rintro e v ⟨rfl, rfl⟩)
      | ((refine wpl_store_row (cs := (bv (noughts 32)).toArray) (o := ⟨none, Op.store 26 (.tmp 4) (.tmp 13), _, _, _, _⟩) arrB.row rfl (.tmp 4) (.tmp 13) rfl rfl rfl B4.out (by rfl) (by rfl) (one_ab _) ?_); intro wz bz kz))
    exact ret_row arrB.row rfl rfl bz (by rfl) rfl ⟨rfl, KK.out.then1 kz L4.out⟩
set_option maxRecDepth 100000 in
set_option maxHeartbeats 3200000 in
theorem key_in {w : World} {r b : Nat} {kv : Value} {keys : List (List UInt8)} {D : DU} (h : Rg w r kv keys b D) (i : Nat) (hi : i < keys.length) :
    Calls Try.prog 22 #[.pointer (some ⟨r, 0, none⟩), .int .i64 (i : Int)] w fun e w' => e = .returned (ab (keys.getD i [])) ∧ Kept [] w w' := by
  obtain ⟨kb, ko, kc, e0, _, _⟩ := h.rows.at_ (by omega)
  subst e0
  have H := Lib.hid h
  have h0 : ¬ ((i : Int) < 0) := by omega
  have h1 : ¬ ((keys.length : Int) ≤ (i : Int)) := by omega
  have hkl := Lib.hid (h.len (keys.getD i []) (by rw [getD_eq hi]; exact List.getElem_mem _))
  obtain ⟨pre, post, hpp, hpl⟩ := split_at hi h.len
  have hel := Lib.hid (fun u (hu : Rd u 32 (.slice (some ⟨kb, ko, none⟩) keys.length kc) keys.length (keys.flatMap bv)) => Rd.elem (i := i) hu hpp hpl (by omega))
  generalize hky : keys.getD i [] = key at *
  clear h hpp hpl hky
  go_enter Try.func22, Try.ntmps22
  go_wp2_with (first
    | ((with_reducible refine wpl_at 4 ?_); (refine wpl_new (o := ⟨some 4, _, _, _, _, _⟩) rfl rfl zeroB ?_); intro g4 w4 m4
       have B4 := Lib.hid m4.blk
       have KK := Lib.hid m4.kept
       have L4 := Lib.hid m4.le
       replace H := Lib.hid (H.out.kept m4.kept)
       have q0 : w4.cell? ⟨r, 0, none⟩ = some (.slice (some ⟨kb, ko, none⟩) keys.length kc) := by rw [H.out.blk.cell]; rfl
       clear m4)
    | (go_at_call 19; (with_reducible refine (size_any H.out).mono ?_); rintro e v ⟨rfl, rfl⟩)
    | ((with_reducible refine wpl_at 19 ?_); refine wpl_idxs (o := ⟨some 19, _, _, _, _, _⟩) keysT rfl (.tmp 17) (.tmp 18) rfl rfl rfl hi ?_)
    | ((with_reducible refine wpl_at 20 ?_); refine wpl_loadp (o := ⟨some 20, _, _, _, _, _⟩) (cs := bv key) arrB.row rfl (.tmp 19) rfl rfl (hel.out _ H.out.rows) (by simpa using hkl.out) ?_)
    | ((refine wpl_store_row (cs := (bv key).toArray) (o := ⟨none, Op.store 26 (.tmp 4) (.tmp 20), _, _, _, _⟩) arrB.row rfl (.tmp 4) (.tmp 20) rfl rfl rfl B4.out (by rfl) (by simpa using hkl.out) (one_ab _) ?_); intro wz bz kz))
  exact ret_row arrB.row rfl rfl bz (by simpa using hkl.out) rfl ⟨rfl, KK.out.then1 kz L4.out⟩
theorem size_nil (w : World) : Calls Try.prog 19 #[.pointer none] w fun e w' => e = .returned (.int .i64 0) ∧ w' = w := by
  go_enter Try.func19, Try.ntmps19
  go_wp2_with fail
  go_ret
  exact ⟨rfl, rfl⟩
theorem faults_nil (w : World) : Calls Try.prog 20 #[.pointer none] w fun e w' => e = .returned (.int .i64 0) ∧ w' = w := by
  go_enter Try.func20, Try.ntmps20
  go_wp2_with (go_at_call 19; (with_reducible refine (size_nil _).mono ?_); rintro e v ⟨rfl, rfl⟩)
  go_ret
  exact ⟨rfl, rfl⟩
theorem quorum_nil (w : World) : Calls Try.prog 21 #[.pointer none] w fun e w' => e = .returned (.int .i64 0) ∧ w' = w := by
  go_enter Try.func21, Try.ntmps21
  go_wp2_with (go_at_call 19; (with_reducible refine (size_nil _).mono ?_); rintro e v ⟨rfl, rfl⟩)
  go_ret
  exact ⟨rfl, rfl⟩
set_option maxRecDepth 100000 in
set_option maxHeartbeats 3200000 in
theorem key_nil (w : World) : Calls Try.prog 22 #[.pointer none, .int .i64 0] w fun e w' => e = .returned (ab (noughts 32)) ∧ Kept [] w w' := by
  have l0 := lit0_v
  go_enter Try.func22, Try.ntmps22
  go_wp2_with (first
    | ((with_reducible refine wpl_at 4 ?_); (refine wpl_new (o := ⟨some 4, _, _, _, _, _⟩) rfl rfl zeroB ?_); intro g4 w4 m4
       have B4 := Lib.hid m4.blk
       have KK := Lib.hid m4.kept
       have L4 := Lib.hid m4.le
       clear m4)
    | (go_at_call 19; (with_reducible refine (size_nil _).mono ?_); rintro e v ⟨rfl, rfl⟩)
    | ((refine wpl_store_row (cs := (bv (noughts 32)).toArray) (o := ⟨none, Op.store 26 (.tmp 4) (.tmp 13), _, _, _, _⟩) arrB.row rfl (.tmp 4) (.tmp 13) rfl rfl rfl B4.out (by rfl) (by rfl) (one_ab _) ?_); intro wz bz kz))
  exact ret_row arrB.row rfl rfl bz (by rfl) rfl ⟨rfl, KK.out.then1 kz L4.out⟩
set_option maxRecDepth 100000 in
set_option maxHeartbeats 3200000 in
theorem open_nil (SG : List UInt8) (w : World) : Calls Try.prog 15 #[.pointer none, .int .i64 0, .int .u8 1, .slice none 0 0, ab SG] w fun e w' => e = .returned (.bool false) ∧ Kept [] w w' := by
  go_enter Try.func15, Try.ntmps15
  go_wp2_with (first
    | ((with_reducible refine wpl_at 9 ?_); (refine wpl_box (o := ⟨some 9, _, _, _, _, _⟩) (v := ab SG) rfl (.tmp 4) rfl rfl ?_); intro g9 w9 m9; have KK := Lib.hid m9.kept; clear m9)
    | (go_at_call 19; (with_reducible refine (size_nil _).mono ?_); rintro e v ⟨rfl, rfl⟩))
  go_ret
  exact ⟨rfl, KK.out⟩
end Go.Proofs.Ytdbngnlpafcogaa
