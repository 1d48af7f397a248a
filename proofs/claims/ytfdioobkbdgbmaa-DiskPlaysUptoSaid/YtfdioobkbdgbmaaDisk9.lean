/-
  The two disks agree: plain laws on lists.
-/
import Derived.Test.YtfdioobkbdgbmaaDisk8
namespace Go.Proofs.Ytfdioobkbdgbmaa

def rep (xs : List UInt8) (s : Nat) : List (UInt8 × Bool) := (xs.take s).map (fun b => (b, true)) ++ (xs.drop s).map (fun b => (b, false))
theorem rep_length (xs : List UInt8) (s : Nat) : (rep xs s).length = xs.length := by simp [rep]; omega
theorem rep_fst (xs : List UInt8) (s : Nat) : (rep xs s).map (·.1) = xs := by simp [rep, Function.comp_def]
theorem rep_safes (xs : List UInt8) (s : Nat) (h : s ≤ xs.length) : safes (rep xs s) = s := by
  have h1 : ∀ l : List UInt8, List.filter (fun x : UInt8 × Bool => x.2) (l.map (fun b => (b, true))) = l.map (fun b => (b, true)) := fun l => List.filter_eq_self.2 (by simp)
  have h2 : ∀ l : List UInt8, List.filter (fun x : UInt8 × Bool => x.2) (l.map (fun b => (b, false))) = [] := fun l => List.filter_eq_nil_iff.2 (by simp)
  simp only [safes, rep, List.filter_append, h1, h2, List.append_nil, List.length_map, List.length_take]
  omega
theorem rep_append (xs ys : List UInt8) (s : Nat) (h : s ≤ xs.length) : rep xs s ++ unsafeB ys = rep (xs ++ ys) s := by
  simp only [rep, unsafeB, List.append_assoc]
  rw [List.take_append_of_le_length h, List.drop_append_of_le_length h, List.map_append]
theorem rep_sync (xs : List UInt8) (s : Nat) : allSafe (rep xs s) = rep xs xs.length := by
  simp only [allSafe, rep, List.map_append, List.map_map, Function.comp_def, List.take_length, List.drop_length, List.map_nil, List.append_nil]
  rw [← List.map_append, List.take_append_drop]
theorem rep_take (xs : List UInt8) (s n : Nat) : (rep xs s).take n = rep (xs.take n) (min s n) := by
  apply List.ext_getElem?
  intro i
  simp only [rep, List.getElem?_take, List.getElem?_append, List.length_map, List.length_take, List.getElem?_map, List.getElem?_drop]
  by_cases hi : i < n
  · rw [if_pos hi]
    by_cases h1 : i < min s xs.length
    · rw [if_pos h1, if_pos (by omega), if_pos (by omega), if_pos (by omega), if_pos hi]
    · rw [if_neg h1, if_neg (by omega)]
      by_cases h2 : i < xs.length
      · have hm : min s xs.length = s := by omega
        have hm2 : min (min s n) (min n xs.length) = s := by omega
        rw [hm, hm2, if_pos (by omega)]
        congr 2
        omega
      · rw [List.getElem?_eq_none (by omega)]
        split
        · rw [List.getElem?_eq_none (by omega)]
        · rfl
  · rw [if_neg hi]
    symm
    rw [if_neg (by omega)]
    rw [if_neg (by omega)]
    rfl
theorem step_true (b : UInt8) (out : List (UInt8 × Bool)) (k : Int) : crashStep (b, true) (out, k) = (out ++ [(b, true)], k) := rfl
theorem step_pos (b : UInt8) (out : List (UInt8 × Bool)) (k : Int) (h : 0 < k) : crashStep (b, false) (out, k) = (out ++ [(b, true)], k - 1) := by simp [crashStep, h]
theorem step_neg (b : UInt8) (out : List (UInt8 × Bool)) (k : Int) (h : ¬ 0 < k) : crashStep (b, false) (out, k) = (out, k) := by simp [crashStep, h]
theorem crash_fold_true (l : List UInt8) (out : List (UInt8 × Bool)) (k : Int) : (l.map (fun b => (b, true))).foldl (fun s x => crashStep x s) (out, k) = (out ++ l.map (fun b => (b, true)), k) := by
  induction l generalizing out with
  | nil => simp
  | cons b l ih => simp only [List.map_cons, List.foldl_cons, step_true]; rw [ih]; simp
theorem crash_fold_false (l : List UInt8) (out : List (UInt8 × Bool)) (k : Int) : ((l.map (fun b => (b, false))).foldl (fun s x => crashStep x s) (out, k)).1 = out ++ (l.take k.toNat).map (fun b => (b, true)) := by
  induction l generalizing out k with
  | nil => simp
  | cons b l ih =>
    simp only [List.map_cons, List.foldl_cons]
    by_cases hk : 0 < k
    · rw [step_pos b out k hk, ih]
      have : k.toNat = (k - 1).toNat + 1 := by omega
      rw [this]
      simp
    · rw [step_neg b out k hk, ih]
      have : k.toNat = 0 := by omega
      simp [this]
theorem rep_crash (xs : List UInt8) (s : Nat) (k : Int) (h : s ≤ xs.length) : (crashed (rep xs s) k).1 = rep (xs.take (left xs.length s k)) (left xs.length s k) := by
  unfold crashed
  conv => lhs; rw [rep]
  rw [List.foldl_append, crash_fold_true, crash_fold_false, List.nil_append]
  have hl := left_le h k
  have e : xs.take (left xs.length s k) = xs.take s ++ (xs.drop s).take k.toNat := by
    rw [List.take_drop]
    have : left xs.length s k = min (s + k.toNat) xs.length := by unfold left; omega
    rw [this]
    apply List.ext_getElem?
    intro i
    simp only [List.getElem?_take, List.getElem?_append, List.length_take, List.getElem?_drop]
    by_cases h4 : i < xs.length
    · by_cases h1 : i < s
      · rw [if_pos (show i < min (s + k.toNat) xs.length by omega), if_pos (show i < min s xs.length by omega), if_pos h1]
      · rw [if_neg (show ¬ i < min s xs.length by omega), show s + (i - min s xs.length) = i from by omega]
        by_cases h2 : i < s + k.toNat
        · rw [if_pos (show i < min (s + k.toNat) xs.length by omega), if_pos (by omega)]
        · rw [if_neg (show ¬ i < min (s + k.toNat) xs.length by omega), if_neg (by omega)]
    · rw [if_neg (show ¬ i < min (s + k.toNat) xs.length by omega), if_neg (show ¬ i < min s xs.length by omega)]
      split
      · rw [List.getElem?_eq_none (by omega)]
      · rfl
  have e2 : rep (xs.take (left xs.length s k)) (left xs.length s k) = (xs.take (left xs.length s k)).map (fun b => (b, true)) := by
    unfold rep
    rw [List.take_take, Nat.min_self, List.drop_eq_nil_of_le (by rw [List.length_take]; omega)]
    simp
  rw [e2, e, List.map_append]

end Go.Proofs.Ytfdioobkbdgbmaa
