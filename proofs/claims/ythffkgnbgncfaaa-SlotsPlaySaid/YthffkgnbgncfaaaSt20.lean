/-
  Slots: shares compared; votes that come from both ends.
-/
import Derived.Test.YthffkgnbgncfaaaSt19
namespace Go.Proofs.Ythffkgnbgncfaaa
open Go.RowKit Go.Mem Go.Txt

theorem shf : ∃ f0 f1, (Try.prog.fieldsOf 38).toList = [f0, f1] ∧ f0.name ≠ "_" ∧ f1.name ≠ "_" ∧ f0.type = 3 ∧ f1.type = 31 ∧ f0.offset = 0 ∧ f1.offset = 1 :=
  ⟨(Try.prog.fieldsOf 38)[0]!, (Try.prog.fieldsOf 38)[1]!, by kernel_rfl, of_decide_eq_true (by kernel_rfl), of_decide_eq_true (by kernel_rfl), by kernel_rfl, by kernel_rfl, by kernel_rfl, by kernel_rfl⟩
theorem flatIn (w : World) : (isAgg 3).run Try.prog w = .ok false w := by kernel_rfl
theorem aggSig (w : World) : (isAgg 31).run Try.prog w = .ok true w := by kernel_rfl
theorem szSig (w : World) : (sizeOf 31).run Try.prog w = .ok 64 w := by kernel_rfl
theorem shU : Try.prog.underlying 38 = some (.struct (Try.prog.fieldsOf 38)) := by kernel_rfl
theorem shH : Try.prog.stoodInHeld 38 = false := by kernel_rfl
theorem szU8 (w : World) : (sizeOf 5).run Try.prog w = .ok 1 w := by kernel_rfl
theorem shp0 (v : Vt) (w : World) : (part 3 (shc v).toArray 0).run Try.prog w = .ok (.int .i64 v.fr) w := by
  simp [part, flatIn w, shc]
theorem shp1 (v : Vt) (hs : v.s.length = 64) (w : World) : (part 31 (shc v).toArray 1).run Try.prog w = .ok (ab v.s) w := by
  have e : (shc v).toArray.extract 1 (1 + 64) = (bv v.s).toArray := by
    apply Array.ext'
    rw [Array.toList_extract, List.extract_eq_take_drop]
    exact List.take_of_length_le (by simp [hs, shc])
  simp only [part, Sem.run_bind, aggSig w, szSig w, Result.andThen_ok, if_true, e, Sem.run_pure]
theorem eqS0 (d : Nat) (x : Int) (w : World) : (Op.equalIn (d + 1) 3 (.int .i64 x) (.int .i64 x)).run Try.prog w = .ok true w :=
  (run_equalIn_int w d 3 .i64 .i64 x x Try.underlying3).trans (by simp)
theorem eqS1 (d : Nat) (s : List UInt8) (hs : s.length = 64) (w : World) : (Op.equalIn (d + 2) 31 (ab s) (ab s)).run Try.prog w = .ok true w :=
  (run_equalIn_bytes w d 31 5 64 sigT.under Try.underlying5 szU8 s s hs hs).trans (by simp)
theorem eqS2 (d : Nat) (v : Vt) (hs : v.s.length = 64) (w : World) (f0 f1 : Field) (n0 : f0.name ≠ "_") (n1 : f1.name ≠ "_") (t0 : f0.type = 3) (t1 : f1.type = 31) (o0 : f0.offset = 0) (o1 : f1.offset = 1) :
    (Op.eqFields (d + 2) (shc v).toArray (shc v).toArray [f0, f1]).run Try.prog w = .ok true w := by
  rw [Op.eqFields, Op.eqFields, Op.eqFields, if_pos n0, if_pos n1, t0, t1, o0, o1]
  rw [Sem.run_bind, shp0 v w, Result.andThen_ok, Sem.run_bind, shp0 v w, Result.andThen_ok, Sem.run_bind, eqS0 (d + 1) v.fr w, Result.andThen_ok]
  rw [if_neg (by decide)]
  rw [Sem.run_bind, shp1 v hs w, Result.andThen_ok, Sem.run_bind, shp1 v hs w, Result.andThen_ok, Sem.run_bind, eqS1 d v.s hs w, Result.andThen_ok]
  rw [if_neg (by decide)]
  rfl
theorem eqShare0 (d : Nat) (v : Vt) (hs : v.s.length = 64) (w : World) : (Op.equalIn (d + 3) 38 (.agg (shc v).toArray) (.agg (shc v).toArray)).run Try.prog w = .ok true w := by
  obtain ⟨f0, f1, hf, n0, n1, t0, t1, o0, o1⟩ := shf
  refine (run_equalIn_struct w (d + 2) 38 (shc v).toArray (shc v).toArray shU shH).trans ?_
  rw [hf]
  exact eqS2 d v hs w f0 f1 n0 n1 t0 t1 o0 o1
theorem eqShare (v : Vt) (hs : v.s.length = 64) (w : World) : (Op.equalIn 10000 38 (.agg (shc v).toArray) (.agg (shc v).toArray)).run Try.prog w = .ok true w := eqShare0 9997 v hs w
theorem exec_neq_share {u : World} {a : Act} {o : Oper} (x y : Operand) {t' : TypeId} (ho : o.op = .binOp .neq 38 x y t') (v : Vt) (hs : v.s.length = 64) (hx : a.eval x = .agg (shc v).toArray) (hy : a.eval y = .agg (shc v).toArray) :
    (execOp a.eval o).run Try.prog u = .ok (.value (.bool false)) u := by
  have h2 := run_eqGuard_agg (P := Try.prog) u .neq 38 x y (shc v).toArray (shc v).toArray (by kernel_rfl)
  have h1 := run_neq_struct (P := Try.prog) u 38 (shc v).toArray (shc v).toArray
  rw [eqShare v hs] at h1
  simp [execOp, ho, hx, hy, h1, h2, Result.andThen]
/-- A signature of one byte. -/
def sv (b : UInt8) : List UInt8 := b :: noughts 63
theorem sv_len (b : UInt8) : (sv b).length = 64 := by simp [sv]
theorem sv_built (b : UInt8) : Try.prog.built 31 [(0, .int .u8 b.toNat)] = some (bv (sv b)).toArray := by kernel_rfl
theorem svx {i : Nat} (h : i < 256) : Try.prog.built 31 [(0, .int .u8 (i : Int))] = some (bv (sv (UInt8.ofNat i))).toArray := by
  have := sv_built (UInt8.ofNat i)
  rwa [UInt8.toNat_ofNat_of_lt' h] at this
theorem hvx2 {i : Nat} (h : i < 256) : Try.prog.built 30 [(0, .int .u8 (i : Int))] = some (bv (hv (UInt8.ofNat i))).toArray := by
  have := hv_built (UInt8.ofNat i)
  rwa [UInt8.toNat_ofNat_of_lt' h] at this
/-- What replica i says. -/
def zv (a : List UInt8) (i : Nat) : Vt := vt i 4 (xb a i) (sv (UInt8.ofNat i))
theorem zv_ok (a : List UInt8) (i : Nat) : (zv a i).ok := vt_ok _ _ _ (sv_len _)
def LL (a : List UInt8) (n : Nat) : List Vt := (List.range n).map (zv a)
/-- The last i of n. -/
def RR (a : List UInt8) (n i : Nat) : List Vt := (List.range' (n - i) i).map (zv a)
theorem LL_len (a : List UInt8) (n : Nat) : (LL a n).length = n := by simp [LL]
theorem RR_all (a : List UInt8) (n : Nat) : RR a n n = LL a n := by simp [RR, LL, List.range_eq_range']
theorem LL_mem {a : List UInt8} {n : Nat} {v : Vt} (h : v ∈ LL a n) : ∃ i, i < n ∧ v = zv a i := by
  obtain ⟨i, hi, rfl⟩ := List.mem_map.1 h
  exact ⟨i, by simpa using hi, rfl⟩
theorem LL_in (a : List UInt8) {k n : Nat} (h : n ≤ 3 * k + 1) : inR k (LL a n) := fun v hv => by
  obtain ⟨i, hi, rfl⟩ := LL_mem hv
  show (0 : Int) ≤ i ∧ (i : Int) ≤ _
  omega
theorem LL_step (a : List UInt8) {k i : Nat} (h : i ≤ 3 * k) : okv k (LL a i) (zv a i) = true ∧ addv k (LL a i) (zv a i) = LL a (i + 1) := by
  obtain ⟨h1, h2⟩ := add_end (f := k) (l := LL a i) (x := zv a i) (fun v hv => by obtain ⟨j, hj, rfl⟩ := LL_mem hv; exact ⟨rfl, by show (j : Int) < i; omega⟩) (by show (0 : Int) ≤ i; omega) (by show (i : Int) ≤ _; omega)
  refine ⟨h1, h2.trans ?_⟩
  simp [LL, List.range_succ]
theorem RR_step (a : List UInt8) {k n i : Nat} (hi : i < n) (h : n ≤ 3 * k + 1) : okv k (RR a n i) (zv a (n - 1 - i)) = true ∧ addv k (RR a n i) (zv a (n - 1 - i)) = RR a n (i + 1) := by
  obtain ⟨h1, h2⟩ := add_front (f := k) (l := RR a n i) (x := zv a (n - 1 - i)) (fun v hv => by
    obtain ⟨j, hj, rfl⟩ := List.mem_map.1 hv
    have := List.mem_range'.1 hj
    exact ⟨rfl, by show ((n - 1 - i : Nat) : Int) < (j : Nat); omega⟩) (by show (0 : Int) ≤ (n - 1 - i : Nat); omega) (by show ((n - 1 - i : Nat) : Int) ≤ _; omega)
  refine ⟨h1, h2.trans ?_⟩
  unfold RR
  rw [show n - i = n - (i + 1) + 1 from by omega, List.range'_succ, List.map_cons, show n - (i + 1) = n - 1 - i from by omega]
/-- Those who said b. -/
def SS (a : List UInt8) (n b : Nat) : List Vt := saidv (LL a n) (hv (UInt8.ofNat b))
theorem SS_le (a : List UInt8) (n b : Nat) : (SS a n b).length ≤ n := Nat.le_trans (List.length_filter_le _ _) (Nat.le_of_eq (LL_len a n))
theorem SS_mem {a : List UInt8} {n b : Nat} {v : Vt} (h : v ∈ SS a n b) : ∃ i, i < n ∧ v = zv a i := LL_mem ((List.mem_filter.1 h).1)
theorem SS_srt (a : List UInt8) (n b : Nat) : (SS a n b).Pairwise fun x y => x.fr < y.fr := by
  refine List.Pairwise.filter _ ?_
  unfold LL
  rw [List.pairwise_map]
  refine List.pairwise_lt_range.imp ?_
  intro i j h
  show (i : Int) < j
  omega
/-- How many said less than b. -/
def al (a : List UInt8) (n : Nat) : Nat → Nat
  | 0 => 0
  | b + 1 => al a n b + (SS a n b).length
theorem al_succ (a : List UInt8) (n b : Nat) : al a n (b + 1) = al a n b + (SS a n b).length := rfl
theorem al_le (a : List UInt8) (n : Nat) : ∀ b, al a n b ≤ b * n
  | 0 => by simp [al]
  | b + 1 => by have := al_le a n b; have := SS_le a n b; rw [al_succ, Nat.succ_mul]; omega
theorem xb_lt (a : List UInt8) (i : Nat) : (xb a i).toNat < 3 := by
  unfold xb
  split
  · rw [UInt8.toNat_mod]; exact Nat.mod_lt _ (by decide)
  · decide
theorem hv_inj {b c : UInt8} : (hv b == hv c) = decide (b = c) := by
  by_cases h : b = c
  · subst h; simp
  · rw [decide_eq_false h]
    simp [hv, h]
theorem three (q : UInt8) (h : q.toNat < 3) : (if (hv q == hv (UInt8.ofNat 0)) = true then 1 else 0) + (if (hv q == hv (UInt8.ofNat 1)) = true then 1 else 0) + (if (hv q == hv (UInt8.ofNat 2)) = true then 1 else 0) = 1 := by
  simp only [hv_inj, decide_eq_true_eq]
  have : q = 0 ∨ q = 1 ∨ q = 2 := by
    rcases (by omega : q.toNat = 0 ∨ q.toNat = 1 ∨ q.toNat = 2) with e | e | e
    · exact .inl (UInt8.toNat_inj.1 e)
    · exact .inr (.inl (UInt8.toNat_inj.1 e))
    · exact .inr (.inr (UInt8.toNat_inj.1 e))
  rcases this with rfl | rfl | rfl <;> decide
theorem al_three (a : List UInt8) (n : Nat) : al a n 3 = n := by
  have key : ∀ l : List Nat, (saidv (l.map (zv a)) (hv (UInt8.ofNat 0))).length + (saidv (l.map (zv a)) (hv (UInt8.ofNat 1))).length + (saidv (l.map (zv a)) (hv (UInt8.ofNat 2))).length = l.length := by
    intro l
    induction l with
    | nil => rfl
    | cons i l ih =>
      have := three (xb a i) (xb_lt a i)
      simp only [List.map_cons, saidv, List.filter_cons, List.length_cons] at ih ⊢
      have hz : (zv a i).h = hv (xb a i) := rfl
      rw [hz]
      cases h0 : (hv (xb a i) == hv (UInt8.ofNat 0)) <;> cases h1 : (hv (xb a i) == hv (UInt8.ofNat 1)) <;> cases h2 : (hv (xb a i) == hv (UInt8.ofNat 2)) <;> simp_all <;> omega
  have := key (List.range n)
  simp only [List.length_range] at this
  show 0 + _ + _ + _ = n
  rw [Nat.zero_add]
  exact this
theorem LL_of (a : List UInt8) (n : Nat) : ofv (LL a n) 4 = LL a n := ofv_all fun v hv => by obtain ⟨i, _, rfl⟩ := LL_mem hv; rfl
theorem LL_of5 (a : List UInt8) (n : Nat) : ofv (LL a n) 5 = [] := by
  unfold ofv
  rw [List.filter_eq_nil_iff]
  intro v hv
  obtain ⟨i, _, rfl⟩ := LL_mem hv
  simp [zv, vt]
end Go.Proofs.Ythffkgnbgncfaaa
