/-
  Slots: bytes compared.
-/
import Derived.Test.YthffkgnbgncfaaaSt13
import Derived.Lib.Bytealg
namespace Go.Proofs.Ythffkgnbgncfaaa
open Go.RowKit Go.Mem Go.Txt

/-- Lexicographically: -1, 0, 1. -/
def bcmp (a b : List UInt8) : Int := Lib.compareBytes a b
theorem run_loadX {P : Program} {w : World} : ∀ (l : List UInt8) (b o : Nat) (acc : ByteArray), (∀ j u, (bv l)[j]? = some u → w.cell? ⟨b, o + j, none⟩ = some u) →
    (Extern.Bytes.loadBytes ⟨b, o, none⟩ l.length acc).run P w = .ok ⟨(acc.data.toList ++ l).toArray⟩ w
  | [], b, o, acc, _ => by
    have : (⟨(acc.data.toList ++ []).toArray⟩ : ByteArray) = acc := by cases acc; simp
    rw [this]; rfl
  | x :: l, b, o, acc, h => by
    have h0 : w.cell? ⟨b, o, none⟩ = some (.int .u8 x.toNat) := by simpa [byteV] using h 0 (byteV x) rfl
    have ih := run_loadX (P := P) (w := w) l b (o + 1) (acc.push x) (fun j u hu => by
      have := h (j + 1) u (by simpa using hu)
      rwa [show o + (j + 1) = o + 1 + j from by omega] at this)
    have hx : ((x.toNat : Int).toNat).toUInt8 = x := by simp
    have e : (⟨((acc.push x).data.toList ++ l).toArray⟩ : ByteArray) = ⟨(acc.data.toList ++ x :: l).toArray⟩ := by
      congr 1
      simp [ByteArray.push]
    rw [e] at ih
    simp only [List.length_cons, Extern.Bytes.loadBytes, Sem.run_bind, run_load, h0, Result.andThen_ok, hx, add_none, ih]
theorem run_bytesX {P : Program} {w : World} {v : Value} {l : List UInt8} (h : Rd w 1 v l.length (bv l)) : (Extern.Bytes.bytesOf v).run P w = .ok (mkS l) w := by
  obtain ⟨A, c, rfl, _, _, hx⟩ := h
  rcases Nat.eq_zero_or_pos l.length with h0 | h0
  · have : l = [] := List.eq_nil_of_length_eq_zero h0
    subst this
    cases A <;> rfl
  · obtain ⟨b, o, rfl, hc⟩ := hx h0
    have := run_loadX (P := P) l b o .empty hc
    simpa [Extern.Bytes.bytesOf, mkS] using this
theorem run_cmpX {P : Program} {w : World} {v u : Value} {a b : List UInt8} (h : Rd w 1 v a.length (bv a)) (h2 : Rd w 1 u b.length (bv b)) :
    (Extern.BytealgCompare.compare #[v, u]).run P w = .ok (.int .i64 (bcmp a b)) w := by
  change Sem.run P (do pure (goInt (Extern.BytealgCompare.cmp (← Extern.Bytes.bytesOf v) (← Extern.Bytes.bytesOf u)))) w = _
  simp only [Sem.run_bind, Sem.run_pure, run_bytesX h, run_bytesX h2, Result.andThen_ok]
  rw [Lib.cmp_eq]
  rfl
set_option maxRecDepth 100000 in
set_option maxHeartbeats 800000 in
theorem bcompare_any {w : World} {v u : Value} {a b : List UInt8} (h : Rd w 1 v a.length (bv a)) (h2 : Rd w 1 u b.length (bv b)) :
    Calls Try.prog 22 #[v, u] w fun e w' => e = .returned (.int .i64 (bcmp a b)) ∧ Kept [] w w' := by
  have hc : (callFunc 31 #[v, u]).run Try.prog w = .ok (.value (.int .i64 (bcmp a b))) w := by
    rw [run_callFunc_extern Try.func31 (by kernel_rfl) (by kernel_rfl) (by kernel_rfl) (e := Extern.BytealgCompare.compare) (by kernel_rfl), run_cmpX h h2]
    rfl
  have K := Lib.hid (Kept.refl [] w)
  obtain ⟨A, c, rfl, _⟩ := h
  obtain ⟨A2, c2, rfl, _⟩ := h2
  go_enter Try.func22, Try.ntmps22
  go_wp2_with (simp only [hc])
  go_ret
  exact ⟨rfl, K.out⟩
/-- One more vote looked at. -/
def stepB (m pre : List Vt) (y : Vt) (p : List UInt8 × Nat) : List UInt8 × Nat :=
  if pre.any (fun v => v.h == y.h) then p else if p.2 < (saidv m y.h).length ∨ (saidv m y.h).length = p.2 ∧ bcmp y.h p.1 < 0 then (y.h, (saidv m y.h).length) else p
/-- What most said, of the first k. -/
def bst (m : List Vt) : Nat → List UInt8 × Nat
  | 0 => (noughts 32, 0)
  | k + 1 => match m[k]? with | some y => stepB m (m.take k) y (bst m k) | none => bst m k
theorem bst_succ {m : List Vt} {k : Nat} (hk : k < m.length) : bst m (k + 1) = stepB m (m.take k) m[k] (bst m k) := by
  show (match m[k]? with | some y => stepB m (m.take k) y (bst m k) | none => bst m k) = _
  rw [List.getElem?_eq_getElem hk]
theorem bst_len {m : List Vt} (hok : ∀ v ∈ m, v.ok) : ∀ k, k ≤ m.length → (bst m k).1.length = 32
  | 0, _ => by simp [bst]
  | k + 1, hk => by
    rw [bst_succ hk]
    have ih := bst_len hok k (by omega)
    unfold stepB
    split
    · exact ih
    · split
      · exact (hok _ (List.getElem_mem hk)).1
      · exact ih
theorem bst_le {m : List Vt} : ∀ k, k ≤ m.length → (bst m k).2 ≤ m.length
  | 0, _ => by simp [bst]
  | k + 1, hk => by
    rw [bst_succ hk]
    have ih := bst_le (m := m) k (by omega)
    unfold stepB
    split
    · exact ih
    · split
      · exact List.length_filter_le _ _
      · exact ih
end Go.Proofs.Ythffkgnbgncfaaa
