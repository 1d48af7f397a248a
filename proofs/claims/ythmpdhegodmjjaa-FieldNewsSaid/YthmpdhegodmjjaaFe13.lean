/-
  Field: squared so many times.
-/
import Derived.Test.YthmpdhegodmjjaaFe11
import Derived.Test.YthmpdhegodmjjaaFe12
namespace Go.Proofs.Ythmpdhegodmjjaa
open Go.RowKit Go.Mem

def mlF (F G : Nat → Nat) : Nat → Nat := carL (gaL (mulT F G))
def sqF (F : Nat → Nat) : Nat → Nat := carL (gaL (mulT F F))
def sqn : Nat → (Nat → Nat) → Nat → Nat
  | 0, F => F
  | k + 1, F => sqF (sqn k F)
theorem mlF_lim {F G : Nat → Nat} (h : Lim F) (h2 : Lim G) : Lim (mlF F G) := ga_lim (mulT_fit h h2)
theorem sqF_lim {F : Nat → Nat} (h : Lim F) : Lim (sqF F) := ga_lim (mulT_fit h h)
theorem sqn_lim {F : Nat → Nat} (h : Lim F) : ∀ k, Lim (sqn k F)
  | 0 => h
  | k + 1 => sqF_lim (sqn_lim h k)
/-- What squares, powers, products answer. -/
abbrev SqC (F R : Nat → Nat) : Prop := ∀ W, Calls Try.prog 39 #[el F] W fun e w' => e = .returned (el R) ∧ Kept [] W w'
abbrev SnC (n : Nat) (F R : Nat → Nat) : Prop := ∀ W, Calls Try.prog 37 #[el F, .int .i64 n] W fun e w' => e = .returned (el R) ∧ Kept [] W w'
abbrev MlC (F G R : Nat → Nat) : Prop := ∀ W, Calls Try.prog 15 #[el F, el G] W fun e w' => e = .returned (el R) ∧ Kept [] W w'
theorem sqF_any (F : Nat → Nat) (h : Lim F) : SqC F (sqF F) := fun W => fsquare_any F W h
theorem mlF_any (F G : Nat → Nat) (h : Lim F) (h2 : Lim G) : MlC F G (mlF F G) := fun W => fmul_any F G W h h2

/-- What lies in memory. -/
structure SqM (w0 : World) (g1 g2 : Nat) (F : Nat → Nat) (u : World) : Prop where
  a : Blk u g1 27 (uv (fam 5 F)).toArray
  r : Blk u g2 27 (uv (fam 5 nought)).toArray
  k : Kept [] w0 u
theorem SqM.kept {w0 : World} {g1 g2 : Nat} {F : Nat → Nat} {u u' : World} (h : SqM w0 g1 g2 F u) (hk : Kept [] u u') : SqM w0 g1 g2 F u' := ⟨h.a.kept hk (by simp), h.r.kept hk (by simp), h.k.then0 hk⟩
theorem SqM.put {w0 : World} {g1 g2 : Nat} {F G : Nat → Nat} {u u' : World} (h : SqM w0 g1 g2 F u) (b : Blk u' g1 27 (uv (fam 5 G)).toArray) (hk : Kept [g1] u u') (hl : w0.heap.size ≤ g1) (hn : g1 ≠ g2) : SqM w0 g1 g2 G u' :=
  ⟨b, h.r.kept hk (by simpa using Ne.symm hn), h.k.then1 hk hl⟩

set_option maxRecDepth 100000 in
set_option maxHeartbeats 1600000 in
theorem sqn_any (n : Nat) (F : Nat → Nat) (hF : Lim F) (hn : n ≤ 1000) : SnC n F (sqn n F) := by
  intro w
  have hsq := Lib.hid (fun k => sqF_any (sqn k F) (sqn_lim hF k))
  clear hF
  go_enter Try.func37, Try.ntmps37
  go_wp2_with (first
    | ((with_reducible refine wpl_box (o := ⟨some 2, _, _, _, _, _⟩) (v := el F) rfl (.tmp 0) rfl rfl ?_); intro g1 w1 m1)
    | ((with_reducible refine wpl_new (o := ⟨some 4, _, _, _, _, _⟩) rfl rfl zeroEl ?_); intro g2 w2 m2))
  have N := Lib.hid (And.intro m1.le (And.intro (Nat.le_trans m1.kept.size m2.le) (m2.ne m1.blk.lt)))
  have H0 := Lib.hid (show SqM w g1 g2 (sqn 0 F) w2 from ⟨m1.blk.kept m2.kept (by simp), m2.blk, m1.kept.then0 m2.kept⟩)
  clear m1 m2
  go_loopg [6] n (fun f i wk => ∃ k : Nat, k ≤ n ∧ f + k = n ∧ i = .int .i64 k ∧ SqM w g1 g2 (sqn k F) wk)
  case atStart => exact ⟨0, Nat.zero_le _, rfl, rfl, H0.out⟩
  case round =>
    obtain ⟨k, hk, hf, rfl, hs⟩ := hrel
    have H := Lib.hid hs
    clear hs
    by_cases hlt : k < n
    · have hc := Lib.hid (hsq.out k)
      go_wp2_with (first
        | (with_reducible refine wpl_load_row (o := ⟨some 8, _, _, _, _, _⟩) structEl rfl (.tmp 2) rfl rfl H.out.a rfl ?_)
        | (go_at_call 39; refine (hc.out _).mono ?_; rintro e w6 ⟨rfl, k6⟩; have H := Lib.hid (H.out.kept k6); clear k6)
        | (refine wpl_store_row structEl rfl (.tmp 2) (.tmp 9) rfl rfl rfl H.out.a rfl rfl (one_el _) ?_; intro w8 b8 k8))
      go_roundg (n - (k + 1))
      case measure => omega
      case rel => exact ⟨k + 1, by omega, by omega, by go_num, H.out.put b8 k8 N.out.1 N.out.2.2⟩
    · obtain rfl : k = n := by omega
      go_wp2_with (first
        | (with_reducible refine wpl_load_row (o := ⟨some 11, _, _, _, _, _⟩) structEl rfl (.tmp 2) rfl rfl H.out.a rfl ?_)
        | (refine wpl_store_row structEl rfl (.tmp 4) (.tmp 11) rfl rfl rfl H.out.r rfl rfl (one_el _) ?_; intro w8 b8 k8))
      exact ret_row structEl rfl rfl b8 rfl rfl ⟨rfl, H.out.k.then1 k8 N.out.2.1⟩
end Go.Proofs.Ythmpdhegodmjjaa
