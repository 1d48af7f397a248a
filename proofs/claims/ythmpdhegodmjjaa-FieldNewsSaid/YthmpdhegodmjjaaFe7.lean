/-
  Field: sums of products, gathered.
-/
import Derived.Test.YthmpdhegodmjjaaFe6
namespace Go.Proofs.Ythmpdhegodmjjaa
open Go.RowKit Go.Mem

def up51 (x : Nat) : Nat := x / 2251799813685248
theorem over_word (x : Nat) (h : x < 41538374868278621028243970633760768) : bits .or .u64 (((h64 x : Nat) : Int) * 8192) (((l64 x : Nat) : Int) / 2251799813685248) = ((up51 x : Nat) : Int) := by
  have h1 : h64 x < 2251799813685248 := by unfold h64; omega
  have h2 := l64_lt x
  have e : up51 x = 8192 * h64 x + l64 x / 2251799813685248 := by unfold up51 h64 l64; omega
  have h3 : l64 x / 2251799813685248 < 2 ^ 13 := by omega
  rw [show ((h64 x : Nat) : Int) * 8192 = ((8192 * h64 x : Nat) : Int) from by omega, show ((l64 x : Nat) : Int) / 2251799813685248 = ((l64 x / 2251799813685248 : Nat) : Int) from by omega,
    bits_or_u64_nat _ _ (by omega) (by omega), e, show (8192 : Nat) = 2 ^ 13 from rfl, Nat.two_pow_add_eq_or_of_lt h3]

set_option maxHeartbeats 800000 in
theorem over_any (x : Nat) (h : x < 41538374868278621028243970633760768) (w : World) :
    Calls Try.prog 43 #[pr x] w fun e w' => e = .returned (.int .u64 (up51 x : Nat)) ∧ Kept [] w w' := by
  have hw := over_word x h
  have h1 : h64 x < 2251799813685248 := by unfold h64; omega
  clear h
  go_enter Try.func43, Try.ntmps43
  go_wp2_with ((with_reducible refine wpl_box (o := ⟨some 1, _, _, _, _, _⟩) (v := pr x) rfl (.tmp 0) rfl rfl ?_); intro g1 w1 m1; have c0 : w1.cell? ⟨g1, 0, none⟩ = some (.int .u64 (h64 x : Nat)) := Blk.uget (l := prs x) m1.blk 0 (by simp); have c1 : w1.cell? ⟨g1, 1, none⟩ = some (.int .u64 (l64 x : Nat)) := Blk.uget (l := prs x) m1.blk 1 (by simp); have M := Lib.hid m1.kept; clear m1)
  go_ret
  exact ⟨rfl, M.out⟩
end Go.Proofs.Ythmpdhegodmjjaa
