/-
  Which rings there are: where there is none.
-/
import Derived.Test.YtdbngnlpafcogaaRg12
namespace Go.Proofs.Ytdbngnlpafcogaa
open Go.RowKit Go.Mem Go.Txt

set_option maxRecDepth 100000 in
set_option maxHeartbeats 3200000 in
theorem makes_no {v : Value} {keys : List (List UInt8)} {w : World} (i : Int) (hr : Rd w 32 v keys.length (keys.flatMap bv)) (hx : keys.length ≤ 4398046510976)
    (cn : ∀ u x, Rd u 32 x keys.length (keys.flatMap bv) → Calls Try.prog 12 #[x] u fun e w' => e = .returned (.tuple #[.pointer none, .int .i64 2]) ∧ Kept [] u w')
    (cf : ∀ u, Rd u 32 v keys.length (keys.flatMap bv) → Calls Try.prog 18 #[v] u fun e w' => e = .returned (.bool false) ∧ Kept [] u w') :
    Calls Try.prog 4 #[v, .int .i64 i] w fun e w' => e = .returned (.bool true) ∧ Kept [] w w' := by
  have c1 := Lib.hid first_any
  replace cn := Lib.hid cn
  replace cf := Lib.hid cf
  replace hx := Lib.hid hx
  have t := Lib.hid (Pm.none w)
  obtain ⟨VA, vc, rfl, _⟩ := id hr
  replace hr := Lib.hid hr
  go_enter Try.func4, Try.ntmps4
  go_wp2_with (first
    | (go_at_call 10; (with_reducible refine (c1.out _).mono ?_); rintro e v12 ⟨rfl, kk⟩; replace t := Lib.hid (t.out.kept kk); clear kk
       have H := Lib.hid (hr.out.kept0 t.out.k))
    | (at_builtin; refine wpl_app keysT rfl (.tmp 14) (.tmp 15) rfl rfl (xs := []) (n := 0) (Ow.of_own (own_alloc_at (by simp) rfl rfl (by omega))) rfl (H.out.alloc _) (one_keys keys) (by have := hx.out; omega) (by have := hx.out; omega) ?_
       intro x16 w16 o16 k16 b16
       have kk := Kept.fresh (S := [v12.heap.size]) ((Kept.refl [] v12).alloc _) k16 (by simp)
       have r16 := Rd.of_ow o16
       rw [Nat.zero_add, List.nil_append] at r16
       obtain ⟨OA, oc, rfl, _⟩ := id r16
       have R16 := Lib.hid r16
       replace t := Lib.hid (t.out.kept kk)
       clear o16 k16 b16 kk r16)
    | (go_at_call 12; (with_reducible refine (cn.out _ _ R16.out).mono ?_); rintro e v19 ⟨rfl, kk⟩; replace t := Lib.hid (t.out.kept kk); clear kk
       have H2 := Lib.hid (hr.out.kept0 t.out.k))
    | (go_at_call 18; (with_reducible refine (cf.out _ H2.out).mono ?_); rintro e v23 ⟨rfl, kk⟩; replace t := Lib.hid (t.out.kept kk); clear kk))
  go_ret
  exact ⟨rfl, t.out.k⟩
end Go.Proofs.Ytdbngnlpafcogaa
