/-
  Field: products of two words, added up.
-/
import Derived.Test.YthmpdhegodmjjaaFe5
import Derived.Test.YthmpdhegodmjjaaMul
namespace Go.Proofs.Ythmpdhegodmjjaa
open Go.RowKit Go.Mem

def h64 (x : Nat) : Nat := x / 18446744073709551616
def l64 (x : Nat) : Nat := x % 18446744073709551616
theorem l64_lt (x : Nat) : l64 x < 18446744073709551616 := Nat.mod_lt _ (by decide)
/-- A number of 128 bits. -/
abbrev prs (x : Nat) : List Nat := [h64 x, l64 x]
abbrev pr (x : Nat) : Value := .agg (uv (prs x)).toArray
theorem structPr : RowT Try.prog 55 2 := ⟨⟨_, Try.underlying55, rfl⟩, by kernel_rfl⟩
theorem zeroPr : (Try.prog.info? 55).map (·.zero) = some (some (pr 0)) := by kernel_rfl
theorem built_pr (x : Nat) : Try.prog.built 55 [(0, .int .u64 (h64 x : Int)), (1, .int .u64 (l64 x : Int))] = some (uv (prs x)).toArray := by kernel_rfl
theorem mul_call (a b : Nat) (ha : a < 18446744073709551616) (hb : b < 18446744073709551616) (w : World) :
    Calls Try.prog 41 #[.int .u64 a, .int .u64 b] w fun e w' => e = .returned (.tuple #[.int .u64 (h64 (a * b) : Nat), .int .u64 (l64 (a * b) : Nat)]) ∧ Kept [] w w' :=
  (mul64_any a b ha hb w).mono (by rintro e w' ⟨rfl, rfl⟩; exact ⟨rfl, Kept.refl _ _⟩)
theorem call_add64 (x y c : Nat) (hc : c ≤ 1) (w : World) : (callFunc 42 #[.int .u64 x, .int .u64 y, .int .u64 c]).run Try.prog w =
    .ok (.value (.tuple #[.int .u64 ((x + y + c) % 18446744073709551616 : Nat), .int .u64 ((x + y + c) / 18446744073709551616 : Nat)])) w := by
  rw [run_callFunc_extern (e := add64Entry) Try.func42 (by kernel_rfl) (by kernel_rfl) (by kernel_rfl) (by kernel_rfl)]
  rw [run_add64 _ _ _ (by omega) (by omega) (by omega) (by omega)]
  simp [Result.andThen]

set_option maxHeartbeats 800000 in
theorem product_any (a b : Nat) (ha : a < 18446744073709551616) (hb : b < 18446744073709551616) (w : World) :
    Calls Try.prog 32 #[.int .u64 a, .int .u64 b] w fun e w' => e = .returned (pr (a * b)) ∧ Kept [] w w' := by
  have hm := Lib.hid (mul_call a b ha hb)
  obtain ⟨x, hx⟩ : ∃ x, x = a * b := ⟨_, rfl⟩
  rw [← hx] at hm ⊢
  clear hx ha hb
  go_enter Try.func32, Try.ntmps32
  go_wp2_with (first
    | ((with_reducible refine wpl_new (o := ⟨some 4, _, _, _, _, _⟩) rfl rfl zeroPr ?_); intro g1 w1 m1)
    | (go_at_call 41; refine (hm.out _).mono ?_; rintro e w2 ⟨rfl, k2⟩; have B := Lib.hid (And.intro (m1.blk.kept k2 (by simp)) (And.intro (m1.kept.then0 k2) m1.le)); clear m1 k2)
    | (refine wpl_build2 rfl 0 1 (.tmp 13) (.tmp 14) rfl rfl rfl (built_pr _) ?_)
    | (refine wpl_store_row structPr rfl (.tmp 4) (.tmp 15) rfl rfl rfl B.out.1 rfl rfl (one_uva _) ?_; intro w8 b8 k8))
  exact ret_row structPr rfl rfl b8 rfl rfl ⟨rfl, B.out.2.1.then1 k8 B.out.2.2⟩

theorem plus_lo (x y : Nat) : (l64 y + l64 x + 0) % 18446744073709551616 = l64 (x + y) := by unfold l64; omega
theorem plus_hi (x y : Nat) (h : x + y < 340282366920938463463374607431768211456) : (h64 y + h64 x + (l64 y + l64 x + 0) / 18446744073709551616) % 18446744073709551616 = h64 (x + y) := by unfold l64 h64; omega
theorem plus_c (x y : Nat) : (l64 y + l64 x + 0) / 18446744073709551616 ≤ 1 := by unfold l64; omega
def pc (x y : Nat) : Nat := (l64 y + l64 x + 0) / 18446744073709551616

set_option maxHeartbeats 1600000 in
theorem plus_any (x a b : Nat) (ha : a < 18446744073709551616) (hb : b < 18446744073709551616) (hs : x + a * b < 340282366920938463463374607431768211456) (w : World) :
    Calls Try.prog 33 #[pr x, .int .u64 a, .int .u64 b] w fun e w' => e = .returned (pr (x + a * b)) ∧ Kept [] w w' := by
  have hm := Lib.hid (mul_call a b ha hb)
  obtain ⟨y, hy⟩ : ∃ y, y = a * b := ⟨_, rfl⟩
  rw [← hy] at hm hs ⊢
  have a1 : ∀ W, (callFunc 42 #[.int .u64 (l64 y : Nat), .int .u64 (l64 x : Nat), .int .u64 0]).run Try.prog W = .ok (.value (.tuple #[.int .u64 (l64 (x + y) : Nat), .int .u64 (pc x y : Nat)])) W := fun W => by
    have := call_add64 (l64 y) (l64 x) 0 (by omega) W
    rw [plus_lo, show (l64 y + l64 x + 0) / 18446744073709551616 = pc x y from rfl] at this
    exact this
  have a2 := fun W => call_add64 (h64 y) (h64 x) (pc x y) (plus_c x y) W
  rw [show (h64 y + h64 x + pc x y) % 18446744073709551616 = h64 (x + y) from plus_hi x y hs] at a2
  obtain ⟨z, hz⟩ : ∃ z, z = x + y := ⟨_, rfl⟩
  rw [← hz] at a1 a2 ⊢
  clear hy ha hb hs hz
  go_enter Try.func33, Try.ntmps33
  go_wp2_with (first
    | ((with_reducible refine wpl_box (o := ⟨some 3, _, _, _, _, _⟩) (v := pr x) rfl (.tmp 0) rfl rfl ?_); intro g1 w1 m1)
    | ((with_reducible refine wpl_new (o := ⟨some 6, _, _, _, _, _⟩) rfl rfl zeroPr ?_); intro g2 w2 m2)
    | (go_at_call 41; refine (hm.out _).mono ?_; rintro e w3 ⟨rfl, k3⟩; have B := Lib.hid (And.intro (m2.blk.kept k3 (by simp)) (And.intro ((m1.kept.then0 m2.kept).then0 k3) (Nat.le_trans m1.kept.size m2.le))); have c0 : w3.cell? ⟨g1, 0, none⟩ = some (.int .u64 (h64 x : Nat)) := Blk.uget (l := prs x) ((m1.blk.kept m2.kept (by simp)).kept k3 (by simp)) 0 (by simp); have c1 : w3.cell? ⟨g1, 1, none⟩ = some (.int .u64 (l64 x : Nat)) := Blk.uget (l := prs x) ((m1.blk.kept m2.kept (by simp)).kept k3 (by simp)) 1 (by simp); clear m1 m2 k3)
    | (refine wpl_build2 rfl 0 1 (.tmp 31) (.tmp 32) rfl rfl rfl (built_pr _) ?_)
    | (refine wpl_store_row structPr rfl (.tmp 6) (.tmp 33) rfl rfl rfl B.out.1 rfl rfl (one_uva _) ?_; intro w8 b8 k8))
  exact ret_row structPr rfl rfl b8 rfl rfl ⟨rfl, B.out.2.1.then1 k8 B.out.2.2⟩
end Go.Proofs.Ythmpdhegodmjjaa
