/-
  The log: what must be answered ahead of everything else: the walk.
-/
import Derived.Test.YtjdfnhfankcodaaWl8
namespace Go.Proofs.Ytjdfnhfankcodaa
open Go.RowKit Go.Mem Go.Txt

theorem rows_one {w : World} {b l : Nat} {rv : Value} {rs : List (Value × List UInt8)} {dn : Bool} (h : LgIs w b l rv rs dn) (h1 : ∃ v, rs = [(v, [97, 98])]) :
    Calls Try.prog 13 #[.pointer (some ⟨l, 0, none⟩)] w fun e w' => ∃ g o c A d, e = .returned (.slice (some ⟨g, o, none⟩) 1 c) ∧ w'.cell? ⟨g, o, none⟩ = some (.slice A 2 d) ∧ Rd w' 1 (.slice A 2 d) [97, 98].length (bv [97, 98]) ∧ Kept [] w w' := by
  obtain ⟨v, rfl⟩ := h1
  refine (rows_any b l rv _ dn w h (by simp) (by simp)).mono ?_
  rintro e w' ⟨v6, ps, rfl, hp, m⟩
  match ps, hp, m with
  | [(x6, y)], hp, m =>
    obtain rfl : y = [97, 98] := by simpa using hp
    obtain ⟨b6, o6, c6, hv6, _, hc6⟩ := m.parts.outer.at_ (by simp)
    subst hv6
    have q6 := hc6 0 x6 rfl
    have r6 := m.parts.inner (x6, [97, 98]) (by simp)
    obtain ⟨A6, d6, hx6, _⟩ := m.parts.inner (x6, [97, 98]) (by simp)
    replace hx6 : x6 = .slice A6 2 d6 := hx6
    subst hx6
    exact ⟨b6, o6, c6, A6, d6, rfl, q6, r6, m.k⟩
set_option maxRecDepth 100000 in
set_option maxHeartbeats 1600000 in
theorem first_any (w : World) : Calls Try.prog 7 #[] w fun e w' => e = .returned (.bool true) ∧ Kept [] w w' := by
  have cn := Lib.hid (dnew_lit 100 100 rfl (by decide))
  have hab : says (encs 0 [[97, 98]]) = [[97, 98]] := says_encs _ (by simp)
  have hl18 : (encs 0 [[97, 98]]).length = 18 := by rw [encs_len]; rfl
  have habH := Lib.hid hab
  have hl18H := Lib.hid hl18
  have e1 : (mkS [97, 98] == { data := #[97, 98] }) = true := mkS_eq [97, 98]
  clear hab hl18
  go_enter Try.func7, Try.ntmps7
  go_wp2_with (first
    | (go_at_call 8; (with_reducible refine (cn.out _).mono ?_); rintro e w1 ⟨b, rfl, d1⟩; have D1 := Lib.hid d1; clear d1)
    | (go_at_call 10; (with_reducible refine (wopen_any D1.out (by decide)).mono ?_); rintro e w2 ⟨l, rv, rs, dv', rfl, h1, h2, h3, h4⟩
       rw [says_nil] at h1 h2
       have hrs : rs = [] := by simpa using h1
       subst hrs
       have W1 := Lib.hid (show Wl w w2 b l 100 0 dv' rv [] [] false from h2)
       clear h1 h2 h3 h4 D1)
    | (go_at_call 16; (with_reducible refine (wwrite_any ((W1.out.kept0 ((Kept.refl [] _).alloc _)).kept0 ((Kept.refl [] _).alloc _)) (parts_lit w2 (wlS b l dv' rv) #[.int .u8 97, .int .u8 98] (2, 3) [97, 98] _ 2 rfl rfl rfl W1.out.lt) (by decide) (by simp) (by simp) (by simp) (by simp [rsz])).mono ?_); rintro e w3 ⟨rfl, dv3, rv3, rs3, hr3, W3, k3⟩
       have W3' := Lib.hid (show Wl w w3 b l 100 (encs 0 [[97, 98]]).length dv3 rv3 rs3 (encs 0 [[97, 98]]) false from W3)
       clear W3 hr3 k3 W1)
    | (go_at_call 17; (with_reducible refine (dlen_any W3'.out.dw).mono ?_); rintro e w4 ⟨he, rfl⟩
       rw [hl18H.out] at he
       subst he)
    | (go_at_call 10; (with_reducible refine (wopen_any W3'.out.dw (by rw [hl18H.out]; decide)).mono ?_); rintro e w5 ⟨l5, rv5, rs5, dv5, rfl, h1, h2, h3, h4⟩
       rw [habH.out] at h1 h2
       have hone := Lib.hid (show ∃ v, rs5 = [(v, [97, 98])] from by
         match rs5, h1 with
         | [(v, x)], h => exact ⟨v, by simp at h; rw [h]⟩)
       have W5 := Lib.hid h2
       clear h1 h2 h3 h4 W3')
    | (go_at_call 13; (with_reducible refine (rows_one W5.out.lg hone.out).mono ?_); rintro e w6 ⟨g6, o6, c6, A6, d6, rfl, q6, r6, k6⟩
       have hs := run_toS (P := Try.prog) (bs := [97, 98]) Try.underlying22 Try.underlying5 Try.underlying9 r6
       have D6 := Lib.hid (W5.out.dw.kept0 k6)
       clear r6 k6)
    | (go_at_call 18; (with_reducible refine (dcut_lit 17 17 rfl D6.out (by rw [List.length_take, hl18H.out]; decide)).mono ?_); rintro e w7 ⟨rfl, dv7, d7, _⟩
       have D7 := Lib.hid d7
       clear d7))
  go_ret
  exact ⟨rfl, D7.out.k⟩
end Go.Proofs.Ytjdfnhfankcodaa
