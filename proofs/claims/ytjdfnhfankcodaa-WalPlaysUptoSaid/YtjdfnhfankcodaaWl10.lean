/-
  The log: rows whose end was lost (WalTorn): words for the walk.
-/
import Derived.Test.YtjdfnhfankcodaaWl9
namespace Go.Proofs.Ytjdfnhfankcodaa
open Go.RowKit Go.Mem Go.Txt

theorem intsT : SliceT Try.prog 39 3 1 8 (.int .i64 0) := ⟨Try.underlying39, by kernel_rfl, rfl, by omega⟩
theorem Wl.farI {w0 w : World} {b l size safe : Nat} {dv rv : Value} {rs : List (Value × List UInt8)} {xs : List UInt8} {dn : Bool} (h : Wl w0 w b l size safe dv rv rs xs dn) {v : Value} {n : Nat} {ys : List Value} (o : Ow w 3 1 v n ys) : ∀ k, v.ownBlock = some k → k ∉ wlS b l dv rv := by
  intro k hk hm
  simp only [wlS, List.mem_cons, List.mem_append] at hm
  rcases hm with rfl | rfl | hm | hm
  · exact o.blk_ne h.disk.blk (by decide) hk
  · exact o.blk_ne h.lg.blk (by decide) hk
  · exact o.ne_ (Ow.of_own h.disk.own) (by decide) k hk (mem_own hm)
  · exact o.ne_ h.lg.own (by decide) k hk (mem_own hm)
theorem Wl.keptI {w0 u u' : World} {b l size safe : Nat} {dv rv : Value} {rs : List (Value × List UInt8)} {xs : List UInt8} {dn : Bool} (h : Wl w0 u b l size safe dv rv rs xs dn) {v : Value} {n : Nat} {ys : List Value} (o : Ow u 3 1 v n ys) (hk : Kept v.ownBlock.toList u u') (hv : ∀ k, v.ownBlock = some k → w0.heap.size ≤ k) : Wl w0 u' b l size safe dv rv rs xs dn := by
  have far : ∀ k ∈ wlS b l dv rv, k ∉ v.ownBlock.toList := fun k hm hm2 => h.farI o k (mem_own hm2) hm
  refine ⟨h.disk.kept hk (far b (by simp [wlS])) (fun k hk1 => far k (by simp [wlS, hk1])), h.lg.kept hk (far l (by simp [wlS])) (fun k hk1 => far k (by simp [wlS, hk1])) (fun x hx k hk1 hm => ?_), h.sep, h.lb, h.ld, h.n, Kept.fresh h.k hk (fun k hm => hv k (mem_own hm))⟩
  exact (h.lg.inner x hx).ne_ o (by decide) k hk1 (mem_own hm)
theorem Wl.ge {w0 w : World} {b l size safe : Nat} {dv rv : Value} {rs : List (Value × List UInt8)} {xs : List UInt8} {dn : Bool} (h : Wl w0 w b l size safe dv rv rs xs dn) : ∀ k ∈ wlS b l dv rv, w0.heap.size ≤ k := by
  intro k hk
  simp only [wlS, List.mem_cons, List.mem_append] at hk
  rcases hk with rfl | rfl | hk | hk
  · exact h.lb
  · exact h.n.ll
  · exact h.ld k (mem_own hk)
  · exact h.n.lr k (mem_own hk)
/-- Where the rows end. -/
def endsL (L : List (List UInt8)) (k : Nat) : List Value := (List.range k).map fun j => Value.int .i64 ((rsz (L.take (j + 1)) : Nat) : Int)
theorem endsL_succ (L : List (List UInt8)) (k : Nat) : endsL L (k + 1) = endsL L k ++ [Value.int .i64 ((rsz (L.take (k + 1)) : Nat) : Int)] := by simp [endsL, List.range_succ]
theorem endsL_len (L : List (List UInt8)) (k : Nat) : (endsL L k).length = k := by simp [endsL]
theorem endsL_at (L : List (List UInt8)) (k j : Nat) (h : j < k) : (endsL L k)[j]? = some (Value.int .i64 ((rsz (L.take (j + 1)) : Nat) : Int)) := by simp [endsL, h]
theorem rsz_le (L : List (List UInt8)) (B : Nat) (h : ∀ x ∈ L, x.length ≤ B) : rsz L ≤ (16 + B) * L.length := by
  induction L with
  | nil => simp [rsz]
  | cons x L ih =>
    have h1 := h x (by simp)
    have h2 := ih (fun y hy => h y (by simp [hy]))
    simp only [rsz, List.length_cons, Nat.mul_add, Nat.mul_one]
    omega
theorem rsz_takes (L : List (List UInt8)) (k : Nat) : rsz (L.take k) ≤ rsz L := by
  have : rsz L = rsz (L.take k) + rsz (L.drop k) := by rw [← rsz_app, List.take_append_drop]
  omega
/-- The first of a list's parts. -/
theorem Parts.cut {w : World} {A : Option Addr} {c n m : Nat} {ps : List (Value × List UInt8)} (h : Parts w (.slice A n c) ps) (hn : ps.length = n) (hm : m ≤ n) :
    ∃ B d, (∀ W, (Instr.sliceAt 32 (.slice A n c) none (some (.int .i64 (m : Int))) none).run Try.prog W = .ok (.slice B m d) W) ∧ Parts w (.slice B m d) (ps.take m) := by
  have ho := h.outer
  rw [hn] at ho
  obtain ⟨B, d, h1, h2, _, _⟩ := cut_to slicesT ho .i64 m hm
  refine ⟨B, d, h1, ?_, fun x hx => h.inner x (List.mem_of_mem_take hx)⟩
  rw [List.length_take, hn, Nat.min_eq_left hm, List.map_take]
  simpa using h2
theorem cut_mod (c : Int) (m : Nat) (hm : m ≤ 1000000000) : ∃ n : Nat, (IntKind.u64.wrap c).tmod ((m : Int) + 1) = n ∧ n ≤ m := by
  have h0 : 0 ≤ IntKind.u64.wrap c := by rw [IntKind.wrap_u64]; exact Int.emod_nonneg _ (by omega)
  rw [Int.tmod_eq_emod_of_nonneg h0]
  have h1 := Int.emod_nonneg (IntKind.u64.wrap c) (show ((m : Int) + 1) ≠ 0 by omega)
  have h2 := Int.emod_lt_of_pos (IntKind.u64.wrap c) (show (0 : Int) < (m : Int) + 1 by omega)
  generalize IntKind.u64.wrap c % ((m : Int) + 1) = z at *
  exact ⟨z.toNat, by omega, by omega⟩
end Go.Proofs.Ytjdfnhfankcodaa
