/-
  Slots: the first test.
-/
import Derived.Test.YthffkgnbgncfaaaSt16
namespace Go.Proofs.Ythffkgnbgncfaaa
open Go.RowKit Go.Mem Go.Txt

section
variable {w0 u : World} {g : Nat} {f : Int} {l : List Vt}
theorem Ft.full (h : Ft w0 u g f l) (hf : 0 ≤ f ∧ f ≤ 1000000) (hi : inR f l) (vw : Int) {hs : List UInt8} (hh : hs.length = 32) :
    Calls Try.prog 16 #[.pointer (some ⟨g, 0, none⟩), .int .i64 vw, ab hs] u fun e w' => e = .returned (.bool (decide (2 * f < ((saidv (ofv l vw) hs).length : Nat)))) ∧ Ft w0 w' g f l := by
  obtain ⟨v, h1, h2, h3, h4⟩ := h
  refine (full_any h1 hf hi vw hh).mono ?_
  rintro e w' ⟨rfl, k⟩
  exact ⟨rfl, v, h1.kept k, h2.then0 k, h3, h4⟩
theorem Ft.count (h : Ft w0 u g f l) (hf : 0 ≤ f ∧ f ≤ 1000000) (hi : inR f l) (vw : Int) {hs : List UInt8} (hh : hs.length = 32) :
    Calls Try.prog 11 #[.pointer (some ⟨g, 0, none⟩), .int .i64 vw, ab hs] u fun e w' => e = .returned (.int .i64 ((saidv (ofv l vw) hs).length : Nat)) ∧ Ft w0 w' g f l := by
  have F := h.ofs hf hi vw
  refine (count_any F hh).mono ?_
  rintro e w' ⟨rfl, k⟩
  exact ⟨rfl, h.kept k⟩
end
set_option maxRecDepth 100000 in
set_option maxHeartbeats 1600000 in
theorem first_any (w : World) : Calls Try.prog 6 #[] w fun e w' => e = .returned (.bool true) ∧ Kept [] w w' := by
  have hf : (0 : Int) ≤ 1 ∧ (1 : Int) ≤ 1000000 := by decide
  have cn := Lib.hid (new_ok 1 (by decide) w)
  have a0 := Lib.hid (fun u g (h : Ft w u g 1 []) => (by have := h.add hf (x := V0) (vt_ok _ _ _ rfl) (by decide); rw [f0.1, f0.2] at this; exact this : Calls Try.prog 8 #[.pointer (some ⟨g, 0, none⟩), .int .i64 0, .int .i64 5, ab (hv 1), ab (noughts 64)] u fun e w' => e = .returned (.bool true) ∧ Ft w w' g 1 [V0]))
  have a1 := Lib.hid (fun u g (h : Ft w u g 1 [V0]) => (by have := h.add hf (x := V1) (vt_ok _ _ _ rfl) (by decide); rw [f1.1, f1.2] at this; exact this : Calls Try.prog 8 #[.pointer (some ⟨g, 0, none⟩), .int .i64 1, .int .i64 5, ab (hv 1), ab (noughts 64)] u fun e w' => e = .returned (.bool true) ∧ Ft w w' g 1 [V0, V1]))
  have a2 := Lib.hid (fun u g (h : Ft w u g 1 [V0, V1]) => (by have := h.add hf (x := V2) (vt_ok _ _ _ rfl) (by decide); rw [f2.1, f2.2] at this; exact this : Calls Try.prog 8 #[.pointer (some ⟨g, 0, none⟩), .int .i64 1, .int .i64 5, ab (hv 2), ab (noughts 64)] u fun e w' => e = .returned (.bool false) ∧ Ft w w' g 1 [V0, V1]))
  have a3 := Lib.hid (fun u g (h : Ft w u g 1 [V0, V1]) => (by have := h.full hf r2 5 (hv_len 1); rw [c2] at this; exact this : Calls Try.prog 16 #[.pointer (some ⟨g, 0, none⟩), .int .i64 5, ab (hv 1)] u fun e w' => e = .returned (.bool false) ∧ Ft w w' g 1 [V0, V1]))
  have a4 := Lib.hid (fun u g (h : Ft w u g 1 [V0, V1]) => (by have := h.add hf (x := V3) (vt_ok _ _ _ rfl) (by decide); rw [f3.1, f3.2] at this; exact this : Calls Try.prog 8 #[.pointer (some ⟨g, 0, none⟩), .int .i64 3, .int .i64 5, ab (hv 1), ab (noughts 64)] u fun e w' => e = .returned (.bool true) ∧ Ft w w' g 1 [V0, V1, V3]))
  have a5 := Lib.hid (fun u g (h : Ft w u g 1 [V0, V1, V3]) => (by have := h.full hf r3 5 (hv_len 1); rw [c3] at this; exact this : Calls Try.prog 16 #[.pointer (some ⟨g, 0, none⟩), .int .i64 5, ab (hv 1)] u fun e w' => e = .returned (.bool true) ∧ Ft w w' g 1 [V0, V1, V3]))
  have a6 := Lib.hid (fun u g (h : Ft w u g 1 [V0, V1, V3]) => (by have := h.count hf r3 5 (hv_len 1); rw [c3] at this; exact this : Calls Try.prog 11 #[.pointer (some ⟨g, 0, none⟩), .int .i64 5, ab (hv 1)] u fun e w' => e = .returned (.int .i64 3) ∧ Ft w w' g 1 [V0, V1, V3]))
  have h1 := Lib.hid (hv_built 1)
  have h2 := Lib.hid (hv_built 2)
  have h3 := Lib.hid sg_built
  clear hf
  generalize noughts 64 = sg at *
  generalize hv 1 = H1 at *
  generalize hv 2 = H2 at *
  go_enter Try.func6, Try.ntmps6
  go_wp2_with (first
    | (go_at_call 7; (with_reducible refine (cn.out).mono ?_); rintro e w1 ⟨g, rfl, t, k, n⟩
       have T := Lib.hid (show Ft w w1 g 1 [] from ⟨_, t, k, n, by simp [Value.ownBlock]⟩)
       clear t k n)
    | (refine wpl_build1 (o := ⟨some 15, _, _, _, _, _⟩) (v := .int .u8 1) rfl 0 _ rfl rfl h1.out ?_)
    | (refine wpl_build0 (o := ⟨some 16, _, _, _, _, _⟩) rfl rfl h3.out ?_)
    | (go_at_call 8; (with_reducible refine (a0.out _ g T.out).mono ?_); rintro e w1 ⟨rfl, t⟩; replace T := Lib.hid t; clear t)
    | (refine wpl_build1 (o := ⟨some 20, _, _, _, _, _⟩) (v := .int .u8 1) rfl 0 _ rfl rfl h1.out ?_)
    | (refine wpl_build0 (o := ⟨some 21, _, _, _, _, _⟩) rfl rfl h3.out ?_)
    | (go_at_call 8; (with_reducible refine (a1.out _ g T.out).mono ?_); rintro e w1 ⟨rfl, t⟩; replace T := Lib.hid t; clear t)
    | (refine wpl_build1 (o := ⟨some 26, _, _, _, _, _⟩) (v := .int .u8 2) rfl 0 _ rfl rfl h2.out ?_)
    | (refine wpl_build0 (o := ⟨some 27, _, _, _, _, _⟩) rfl rfl h3.out ?_)
    | (go_at_call 8; (with_reducible refine (a2.out _ g T.out).mono ?_); rintro e w1 ⟨rfl, t⟩; replace T := Lib.hid t; clear t)
    | (refine wpl_build1 (o := ⟨some 33, _, _, _, _, _⟩) (v := .int .u8 1) rfl 0 _ rfl rfl h1.out ?_)
    | (go_at_call 16; (with_reducible refine (a3.out _ g T.out).mono ?_); rintro e w1 ⟨rfl, t⟩; replace T := Lib.hid t; clear t)
    | (refine wpl_build1 (o := ⟨some 40, _, _, _, _, _⟩) (v := .int .u8 1) rfl 0 _ rfl rfl h1.out ?_)
    | (refine wpl_build0 (o := ⟨some 41, _, _, _, _, _⟩) rfl rfl h3.out ?_)
    | (go_at_call 8; (with_reducible refine (a4.out _ g T.out).mono ?_); rintro e w1 ⟨rfl, t⟩; replace T := Lib.hid t; clear t)
    | (refine wpl_build1 (o := ⟨some 46, _, _, _, _, _⟩) (v := .int .u8 1) rfl 0 _ rfl rfl h1.out ?_)
    | (go_at_call 16; (with_reducible refine (a5.out _ g T.out).mono ?_); rintro e w1 ⟨rfl, t⟩; replace T := Lib.hid t; clear t)
    | (refine wpl_build1 (o := ⟨some 51, _, _, _, _, _⟩) (v := .int .u8 1) rfl 0 _ rfl rfl h1.out ?_)
    | (go_at_call 11; (with_reducible refine (a6.out _ g T.out).mono ?_); rintro e w1 ⟨rfl, t⟩; replace T := Lib.hid t; clear t))
  go_ret
  exact ⟨rfl, T.out.k⟩
end Go.Proofs.Ythffkgnbgncfaaa
