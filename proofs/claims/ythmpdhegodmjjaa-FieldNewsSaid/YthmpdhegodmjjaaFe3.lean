/-
  Field: small numbers; what sums and differences come to.
-/
import Derived.Test.YthmpdhegodmjjaaFe2
namespace Go.Proofs.Ythmpdhegodmjjaa
open Go.RowKit Go.Mem

theorem addL_val (F G : Nat → Nat) : fv (addL F G) = fv F + fv G := by
  unfold fv addL
  omega
theorem subL_val (F G : Nat → Nat) (_ : Lim F) (hG : Lim G) : fv (subL F G) + fv G = fv F + 4 * PP := by
  have g0 := hG 0 (by omega)
  have g1 := hG 1 (by omega)
  have g2 := hG 2 (by omega)
  have g3 := hG 3 (by omega)
  have g4 := hG 4 (by omega)
  unfold fv
  rw [show subL F G 0 = F 0 + (9007199254740988 - G 0) - 72 from rfl, show subL F G 1 = F 1 + (9007199254740988 - G 1) from rfl, show subL F G 2 = F 2 + (9007199254740988 - G 2) from rfl, show subL F G 3 = F 3 + (9007199254740988 - G 3) from rfl, show subL F G 4 = F 4 + (9007199254740988 - G 4) from rfl]
  unfold PP
  omega

/-- Limbs of a number: they stand for x. -/
structure Rep (F : Nat → Nat) (x : Nat) : Prop where
  lim : Lim F
  val : fv F % PP = x % PP
theorem Rep.add {F G : Nat → Nat} {x y : Nat} (h : Rep F x) (h2 : Rep G y) : Rep (carL (addL F G)) (x + y) := by
  refine ⟨carL_lim _ fun i hi => by have := h.lim i hi; have := h2.lim i hi; unfold addL; omega, ?_⟩
  rw [carL_mod, addL_val, Nat.add_mod, h.val, h2.val, ← Nat.add_mod]
theorem Rep.sub {F G : Nat → Nat} {x y z : Nat} (h : Rep F x) (h2 : Rep G y) (hz : (z + y) % PP = x % PP) : Rep (carL (subL F G)) z := by
  refine ⟨carL_lim _ fun i hi => by have := h.lim i hi; have := h.lim 0 (by omega); unfold subL preL; split <;> omega, ?_⟩
  rw [carL_mod]
  have e := subL_val F G h.lim h2.lim
  have e2 : (fv (subL F G) + y) % PP = (z + y) % PP := by
    have : (fv (subL F G) + fv G) % PP = fv F % PP := by rw [e, Nat.add_mul_mod_self_right]
    rw [Nat.add_mod, h2.val, ← Nat.add_mod] at this
    rw [this, h.val, hz]
  have hp := PP_pos
  have e3 : (fv (subL F G) + y + (PP - y % PP)) % PP = (z + y + (PP - y % PP)) % PP := by
    rw [Nat.add_mod, e2, ← Nat.add_mod]
  have hy := Nat.mod_lt y hp
  have hd := Nat.div_add_mod y PP
  have a1 : ∀ q, q + y + (PP - y % PP) = q + PP * (y / PP + 1) := fun q => by rw [Nat.mul_add]; omega
  rw [a1, a1, Nat.add_mul_mod_self_left, Nat.add_mul_mod_self_left] at e3
  exact e3

section
variable {P : Program} {w : World} {ops : Array Oper} {rest : List Oper} {o : Oper} {a : Act} {Q : Exit → Act → World → Prop} {t e : TypeId} {n : Nat}
/-- An array or a struct of two parts given. -/
theorem wpl_build2 (hgd : Region.wanted o (yielded ops a.tmps) = true) (i j : Nat) (x y : Operand) (ho : o.op = .build t #[(i, x), (j, y)]) {v u : Value} (hx : a.eval x = v) (hy : a.eval y = u) {cs : Array Value} (hb : P.built t [(i, v), (j, u)] = some cs) (h : wpList P ops Q rest (a.put o.dst (.agg cs)) w) : wpList P ops Q (o :: rest) a w := by
  have e : (#[(i, x), (j, y)].map fun (p : Nat × Operand) => (p.1, a.eval p.2)).toList = [(i, v), (j, u)] := by simp [hx, hy]
  refine wpl_wanted hgd fun _ hK => wp_build t #[(i, x), (j, y)] ho (by rw [e, hb]; rfl) (hK _ _ ?_)
  rw [e, hb]
  exact h
end
def smL (v i : Nat) : Nat := if i = 0 then v % 2251799813685248 else if i = 1 then v / 2251799813685248 else 0
theorem small_val (v : Nat) : fv (smL v) = v := by
  unfold fv
  rw [show smL v 0 = v % 2251799813685248 from rfl, show smL v 1 = v / 2251799813685248 from rfl, show smL v 2 = 0 from rfl, show smL v 3 = 0 from rfl, show smL v 4 = 0 from rfl]
  omega
theorem built_two (x y : Nat) : Try.prog.built 25 [(0, .int .u64 (x : Int)), (1, .int .u64 (y : Int))] = some #[.int .u64 (x : Int), .int .u64 (y : Int), .int .u64 0, .int .u64 0, .int .u64 0] := by kernel_rfl
theorem built_el (f : Nat → Nat) : Try.prog.built 27 [(0, el f)] = some (uv (fam 5 f)).toArray := by kernel_rfl
theorem small_el (v : Nat) : (uv (fam 5 (smL v))).toArray = #[.int .u64 ((v % 2251799813685248 : Nat) : Int), .int .u64 ((v / 2251799813685248 : Nat) : Int), .int .u64 0, .int .u64 0, .int .u64 0] := rfl
set_option maxHeartbeats 800000 in
theorem small_any (v : Nat) (w : World) (hv : v < 18446744073709551616) :
    Calls Try.prog 12 #[.int .u64 v] w fun e w' => e = .returned (el (smL v)) ∧ Kept [] w w' := by
  obtain ⟨p, hp⟩ : ∃ p, p = v % 2251799813685248 := ⟨_, rfl⟩
  obtain ⟨q, hq⟩ : ∃ q, q = v / 2251799813685248 := ⟨_, rfl⟩
  have hm : bits .and .u64 ((v : Nat) : Int) 2251799813685247 = ((p : Nat) : Int) := by rw [hp]; exact and51 v hv
  have hd : ((v : Nat) : Int) / 2251799813685248 = ((q : Nat) : Int) := by rw [hq]; omega
  have hb := built_two p q
  have he := small_el v
  rw [← hp, ← hq] at he
  rw [← he] at hb
  have hb2 := Lib.hid hb
  clear hb he hp hq hv
  go_enter Try.func12, Try.ntmps12
  go_wp2_with (first
    | ((with_reducible refine wpl_new (o := ⟨some 2, _, _, _, _, _⟩) rfl rfl zeroEl ?_); intro g1 w1 m1)
    | (refine wpl_build2 rfl 0 1 (.tmp 4) (.tmp 6) rfl rfl rfl hb2.out ?_)
    | (refine wpl_build1 rfl 0 (.tmp 7) rfl rfl (built_el _) ?_)
    | (refine wpl_store_row structEl rfl (.tmp 2) (.tmp 8) rfl rfl rfl m1.blk rfl rfl (one_el _) ?_; intro w8 b8 k8))
  exact ret_row structEl rfl rfl b8 rfl rfl ⟨rfl, m1.kept.then1 k8 m1.le⟩
end Go.Proofs.Ythmpdhegodmjjaa
