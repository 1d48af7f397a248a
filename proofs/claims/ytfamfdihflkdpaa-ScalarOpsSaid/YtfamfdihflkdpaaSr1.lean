/-
  Scalars, the document's answer: digits of 256; which numbers are below L.
-/
import Derived.Test.YtfamfdihflkdpaaSl1
import Derived.Test.YtfamfdihflkdpaaText5
namespace Go.Proofs.Ytfamfdihflkdpaa
open Go.RowKit Go.Mem

/-- Digit i of x. -/
def dg (x i : Nat) : Nat := x / 256 ^ i % 256
theorem dg_lt (x i : Nat) : dg x i < 256 := Nat.mod_lt _ (by decide)
theorem dg_succ (x i : Nat) : x / 256 ^ i = 256 * (x / 256 ^ (i + 1)) + dg x i := by
  unfold dg
  rw [Nat.pow_succ, ← Nat.div_div_eq_div_mul]
  omega
/-- 33 digits. -/
def dgs (x : Nat) : List Int := (List.range 33).map fun i => (dg x i : Int)
theorem dgs_len (x : Nat) : (dgs x).length = 33 := by simp [dgs]
theorem dgs_get (x i : Nat) (h : i < 33) : (dgs x)[i]'(by rw [dgs_len]; exact h) = (dg x i : Int) := by simp [dgs]

theorem ord_at : ∀ k, k < 32 → (#[Value.int .i64 237, .int .i64 211, .int .i64 245, .int .i64 92, .int .i64 26, .int .i64 99, .int .i64 18, .int .i64 88, .int .i64 214, .int .i64 156, .int .i64 247, .int .i64 162, .int .i64 222, .int .i64 249, .int .i64 222, .int .i64 20, .int .i64 0, .int .i64 0, .int .i64 0, .int .i64 0, .int .i64 0, .int .i64 0, .int .i64 0, .int .i64 0, .int .i64 0, .int .i64 0, .int .i64 0, .int .i64 0, .int .i64 0, .int .i64 0, .int .i64 0, .int .i64 16] : Array Value)[k]? = some (.int .i64 (dg LL k : Nat)) := by
  have h : ∀ k : Fin 32, (#[237, 211, 245, 92, 26, 99, 18, 88, 214, 156, 247, 162, 222, 249, 222, 20, 0, 0, 0, 0, 0, 0, 0, 0, 0, 0, 0, 0, 0, 0, 0, 16] : Array Nat)[k.val]? = some (dg LL k.val) := by decide +kernel
  intro k hk
  have := h ⟨k, hk⟩
  have e : (#[Value.int .i64 237, .int .i64 211, .int .i64 245, .int .i64 92, .int .i64 26, .int .i64 99, .int .i64 18, .int .i64 88, .int .i64 214, .int .i64 156, .int .i64 247, .int .i64 162, .int .i64 222, .int .i64 249, .int .i64 222, .int .i64 20, .int .i64 0, .int .i64 0, .int .i64 0, .int .i64 0, .int .i64 0, .int .i64 0, .int .i64 0, .int .i64 0, .int .i64 0, .int .i64 0, .int .i64 0, .int .i64 0, .int .i64 0, .int .i64 0, .int .i64 0, .int .i64 16] : Array Value) = (#[237, 211, 245, 92, 26, 99, 18, 88, 214, 156, 247, 162, 222, 249, 222, 20, 0, 0, 0, 0, 0, 0, 0, 0, 0, 0, 0, 0, 0, 0, 0, 16] : Array Nat).map fun (z : Nat) => Value.int .i64 (z : Int) := by simp
  rw [e, Array.getElem?_map, this]
  rfl

theorem rorder_any (k : Nat) (hk : k < 32) (w : World) : Calls Try.prog 27 #[.int .i64 k] w fun e w' => e = .returned (.int .i64 (dg LL k : Nat)) ∧ Kept [] w w' := by
  have hc : ∀ W : World, (W.alloc (.cells #[Value.int .i64 237, .int .i64 211, .int .i64 245, .int .i64 92, .int .i64 26, .int .i64 99, .int .i64 18, .int .i64 88, .int .i64 214, .int .i64 156, .int .i64 247, .int .i64 162, .int .i64 222, .int .i64 249, .int .i64 222, .int .i64 20, .int .i64 0, .int .i64 0, .int .i64 0, .int .i64 0, .int .i64 0, .int .i64 0, .int .i64 0, .int .i64 0, .int .i64 0, .int .i64 0, .int .i64 0, .int .i64 0, .int .i64 0, .int .i64 0, .int .i64 0, .int .i64 16] 3)).cell? ⟨W.heap.size, k, none⟩ = some (.int .i64 (dg LL k : Nat)) := fun W => by
    rw [cell_of_row _ _ _ _ _ _ (heap_alloc_new W _)]
    exact ord_at k hk
  go_enter Try.func27, Try.ntmps27
  go_wp2_with fail
  go_ret
  exact ⟨rfl, (Kept.refl [] w).alloc _⟩

theorem below_lt {x i : Nat} (h : x / 256 ^ (i + 1) = LL / 256 ^ (i + 1)) (hne : dg x i ≠ dg LL i) : decide (x < LL) = decide (dg x i < dg LL i) := by
  have h1 := dg_succ x i
  have h2 := dg_succ LL i
  rw [h] at h1
  have hp : 0 < 256 ^ i := Nat.pow_pos (by decide)
  rw [decide_eq_decide]
  constructor
  · intro hlt
    have : x / 256 ^ i ≤ LL / 256 ^ i := Nat.div_le_div_right (Nat.le_of_lt hlt)
    omega
  · intro hlt
    rcases Nat.lt_or_ge x LL with h3 | h3
    · exact h3
    · have : LL / 256 ^ i ≤ x / 256 ^ i := Nat.div_le_div_right h3
      omega
theorem below_eq {x i : Nat} (h : x / 256 ^ (i + 1) = LL / 256 ^ (i + 1)) (he : dg x i = dg LL i) : x / 256 ^ i = LL / 256 ^ i := by
  rw [dg_succ x i, dg_succ LL i, h, he]
def belowB (x : Nat) : Bool := decide (x < LL)
theorem below_big {x : Nat} (h : dg x 32 ≠ 0) : belowB x = false := by
  unfold belowB
  refine decide_eq_false fun hlt => h ?_
  unfold dg
  have : x / 256 ^ 32 = 0 := Nat.div_eq_of_lt (Nat.lt_trans hlt (by decide +kernel))
  rw [this]
theorem below_start {x : Nat} (hx : x < 256 ^ 33) (h : dg x 32 = 0) : x / 256 ^ 32 = LL / 256 ^ 32 := by
  have h1 : x / 256 ^ 32 < 256 := by
    rw [Nat.div_lt_iff_lt_mul (Nat.pow_pos (by decide)), Nat.mul_comm, ← Nat.pow_succ]
    exact hx
  unfold dg at h
  rw [Nat.mod_eq_of_lt h1] at h
  rw [h]
  decide +kernel

set_option maxHeartbeats 800000 in
theorem rbelow_any (v : Value) (x : Nat) (w : World) (hr : Rd w 1 v 33 (iv (dgs x))) (hx : x < 256 ^ 33) :
    Calls Try.prog 20 #[v] w fun e w' => e = .returned (.bool (belowB x)) ∧ Kept [] w w' := by
  have hr2 := Lib.hid hr
  obtain ⟨b, o, c, rfl, hc, hcell⟩ := hr.at_ (by omega)
  have c32 := hcell 32 (.int .i64 (dg x 32 : Nat)) (by simp [dgs])
  have hcell2 := Lib.hid hcell
  have hx2 := Lib.hid hx
  clear hr hcell hx
  by_cases h32 : dg x 32 = 0
  · have hst := Lib.hid (below_start hx2.out h32)
    rw [h32] at c32
    clear h32
    go_enter Try.func20, Try.ntmps20
    go_wp2_with fail
    go_loopg [3] 32 (fun f i wk => ∃ m : Nat, f = m ∧ m ≤ 32 ∧ i = .int .i64 ((m : Int) - 1) ∧ x / 256 ^ m = LL / 256 ^ m ∧ Kept [] w wk)
    case atStart => exact ⟨32, rfl, Nat.le_refl _, rfl, hst.out, Kept.refl _ _⟩
    case round =>
      obtain ⟨m, hf, hm, rfl, he, hk⟩ := hrel
      have he2 := Lib.hid he
      have hk2 := Lib.hid hk
      clear he hk
      by_cases hm0 : 0 < m
      · have hi0 : (0 : Int) ≤ (m : Int) - 1 := by omega
        have hi1 : (1 : Int) ≤ (m : Int) := by omega
        have hS := Lib.hid (show Rd wr 1 (.slice (some ⟨b, o, none⟩) 33 c) 33 (iv (dgs x)) from hr2.out.kept0 hk2.out)
        have cm : ∀ u, Rd u 1 (.slice (some ⟨b, o, none⟩) 33 c) 33 (iv (dgs x)) → u.cell? ⟨b, o + (m - 1), none⟩ = some (.int .i64 (dg x (m - 1) : Nat)) := fun u hu => by
          obtain ⟨b', o', c', he, _, hcc⟩ := hu.at_ (by omega)
          cases he
          exact hcc (m - 1) _ (by simp [dgs, show m - 1 < 33 from by omega])
        have cm2 := Lib.hid cm
        have c1 := cm wr hS.out
        have ho := Lib.hid (rorder_any (m - 1) (by omega))
        have hcast : ((m : Int) - 1) = ((m - 1 : Nat) : Int) := by omega
        have hcast2 := Lib.hid hcast
        clear cm hcast
        by_cases heq : dg x (m - 1) = dg LL (m - 1)
        · have hn2 := Lib.hid (show x / 256 ^ (m - 1) = LL / 256 ^ (m - 1) from below_eq (by rw [show m - 1 + 1 = m from by omega]; exact he2.out) heq)
          rw [heq] at c1
          have heq2 := Lib.hid heq
          clear heq
          go_wp2_with fail
          refine Txt.wp_textF [3] (fun u => Rd u 1 (.slice (some ⟨b, o, none⟩) 33 c) 33 (iv (dgs x))) [[_, _, _, _, _, _], [_]] (by kernel_rfl) (by kernel_rfl) rfl hS.out.drew (Txt.segs_cons ?_)
          go_wp2_with fail
          rw [hcast2.out]
          refine (ho.out _).mono ?_
          rintro e w2 ⟨rfl, k2⟩
          have hS3 := Lib.hid (show Rd w2 1 (.slice (some ⟨b, o, none⟩) 33 c) 33 (iv (dgs x)) from hS.out.kept0 k2.from_drew)
          have k3 := Lib.hid (hk2.out.then0 k2.from_drew)
          clear k2
          go_wp2_with fail
          refine ⟨rfl, hS3.out, Txt.segs_cons ?_⟩
          go_wp2_with fail
          refine ⟨rfl, hS3.out, Txt.segs_nil ⟨⟨by kernel_rfl, ?_⟩, ?_⟩⟩
          · intro j hj oo ho' _
            obtain rfl : j = 3 := by simpa using hj
            cases ho'
            exact ⟨15, rfl, fun u hu => by
              have := cm2.out u hu
              simp [execOp, Act.eval, Instr.loadAt, Instr.sureAddr, loadVar, isAgg, run_underlying Try.underlying3, this, heq2.out]⟩
          go_wp2_with fail
          go_roundg (m - 1)
          case measure => omega
          case rel => exact ⟨m - 1, rfl, by omega, rfl, hn2.out, k3.out⟩
        · have hbl := below_lt (x := x) (i := m - 1) (by rw [show m - 1 + 1 = m from by omega]; exact he2.out) heq
          have hne1 : (((dg x (m - 1) : Nat) : Int) == ((dg LL (m - 1) : Nat) : Int)) = false := by
            rw [beq_eq_false_iff_ne]; omega
          have hne2 : ¬ ((dg x (m - 1) : Nat) : Int) = ((dg LL (m - 1) : Nat) : Int) := by omega
          have hbl2 := Lib.hid hbl
          clear hbl
          go_wp2_with fail
          refine Txt.wp_textF [3] (fun u => Rd u 1 (.slice (some ⟨b, o, none⟩) 33 c) 33 (iv (dgs x))) [[_, _, _, _, _, _], [_]] (by kernel_rfl) (by kernel_rfl) rfl hS.out.drew (Txt.segs_cons ?_)
          go_wp2_with fail
          rw [hcast2.out]
          refine (ho.out _).mono ?_
          rintro e w2 ⟨rfl, k2⟩
          have hS3 := Lib.hid (show Rd w2 1 (.slice (some ⟨b, o, none⟩) 33 c) 33 (iv (dgs x)) from hS.out.kept0 k2.from_drew)
          have k3 := Lib.hid (hk2.out.then0 k2.from_drew)
          clear k2
          go_wp2_with fail
          refine ⟨rfl, hS3.out, Txt.segs_cons ?_⟩
          go_wp2_with fail
          refine ⟨rfl, hS3.out, Txt.segs_nil ⟨⟨by kernel_rfl, ?_⟩, ?_⟩⟩
          · intro j hj oo ho' _
            obtain rfl : j = 3 := by simpa using hj
            cases ho'
            exact ⟨15, rfl, fun u hu => by
              have := cm2.out u hu
              simp [execOp, Act.eval, Instr.loadAt, Instr.sureAddr, loadVar, isAgg, run_underlying Try.underlying3, this]⟩
          have c2 := cm2.out w2 hS3.out
          go_wp2_with fail
          refine Txt.wp_textF [3] (fun u => Rd u 1 (.slice (some ⟨b, o, none⟩) 33 c) 33 (iv (dgs x))) [[_, _, _, _, _, _], [_, _]] (by kernel_rfl) (by kernel_rfl) rfl hS3.out.drew (Txt.segs_cons ?_)
          go_wp2_with fail
          refine (ho.out _).mono ?_
          rintro e w3 ⟨rfl, k4⟩
          have hS4 := Lib.hid (show Rd w3 1 (.slice (some ⟨b, o, none⟩) 33 c) 33 (iv (dgs x)) from hS3.out.kept0 k4.from_drew)
          have k5 := Lib.hid (k3.out.then0 k4.from_drew)
          clear k4
          go_wp2_with fail
          refine ⟨rfl, hS4.out, Txt.segs_cons ?_⟩
          go_wp2_with fail
          refine ⟨rfl, hS4.out, Txt.segs_nil ⟨⟨by kernel_rfl, ?_⟩, ?_⟩⟩
          · intro j hj oo ho' _
            obtain rfl : j = 3 := by simpa using hj
            cases ho'
            exact ⟨22, rfl, fun u hu => by
              have := cm2.out u hu
              simp [execOp, Act.eval, Instr.loadAt, Instr.sureAddr, loadVar, isAgg, run_underlying Try.underlying3, this]⟩
          go_wp2_with fail
          go_ret
          refine ⟨?_, k5.out⟩
          unfold belowB
          rw [hbl2.out]
          rfl
      · obtain rfl : m = 0 := by omega
        have hf0 := Lib.hid (show belowB x = false from by
          have := he2.out
          simp at this
          rw [this]
          exact decide_eq_false (Nat.lt_irrefl _))
        go_wp2_with fail
        go_ret
        exact ⟨by rw [hf0.out]; rfl, hk2.out⟩
  · have hf0 := Lib.hid (below_big h32)
    have hne2 : ¬ ((dg x 32 : Nat) : Int) = 0 := by omega
    clear h32
    go_enter Try.func20, Try.ntmps20
    go_wp2_with fail
    go_ret
    exact ⟨by rw [hf0.out]; rfl, Kept.refl _ _⟩
end Go.Proofs.Ytfamfdihflkdpaa
