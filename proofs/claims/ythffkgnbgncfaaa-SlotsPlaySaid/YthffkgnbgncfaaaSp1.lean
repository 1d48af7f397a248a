/-
  Slots, the document's answer: hashes compared; a vote that comes.
-/
import Derived.Test.YthffkgnbgncfaaaSt21
namespace Go.Proofs.Ythffkgnbgncfaaa
open Go.RowKit Go.Mem Go.Txt

/-- Less, byte by byte. -/
def lessB : List UInt8 → List UInt8 → Bool
  | x :: a, y :: b => if x = y then lessB a b else decide (x.toNat < y.toNat)
  | _, _ => false
theorem lessB_cons (x y : UInt8) (a b : List UInt8) : lessB (x :: a) (y :: b) = if x = y then lessB a b else decide (x.toNat < y.toNat) := rfl
structure LsM (w0 : World) (g2 g3 : Nat) (a b : List UInt8) (u : World) : Prop where
  a : Blk u g2 30 (bv a).toArray
  b : Blk u g3 30 (bv b).toArray
  k : Kept [] w0 u
theorem LsM.kept {w0 u u' : World} {g2 g3 : Nat} {a b : List UInt8} (h : LsM w0 g2 g3 a b u) (hk : Kept [] u u') : LsM w0 g2 g3 a b u' := ⟨h.a.kept hk (by simp), h.b.kept hk (by simp), h.k.then0 hk⟩
theorem cell_bv {u : World} {g : Nat} {t : TypeId} {a : List UInt8} (h : Blk u g t (bv a).toArray) {i : Nat} (hi : i < a.length) : u.cell? ⟨g, i, none⟩ = some (.int .u8 a[i].toNat) := by
  rw [h.cell]; simp [hi, byteV]
set_option maxRecDepth 100000 in
set_option maxHeartbeats 1600000 in
theorem less_any (a b : List UInt8) (ha : a.length = 32) (hb : b.length = 32) (w : World) :
    Calls Try.prog 24 #[ab a, ab b] w fun e w' => e = .returned (.bool (lessB a b)) ∧ Kept [] w w' := by
  go_enter Try.func24, Try.ntmps24
  go_wp2_with (first
    | ((with_reducible refine wpl_box (o := ⟨some 2, _, _, _, _, _⟩) (v := ab a) rfl (.tmp 0) rfl rfl ?_); intro g2 w2 m2)
    | ((with_reducible refine wpl_box (o := ⟨some 3, _, _, _, _, _⟩) (v := ab b) rfl (.tmp 1) rfl rfl ?_); intro g3 w3 m3
       have M := Lib.hid (show LsM w g2 g3 a b w3 from ⟨m2.blk.kept m3.kept (by simp), m3.blk, m2.kept.then0 m3.kept⟩)
       clear m2 m3))
  go_loopg [6] 32 (fun fu i wk => ∃ k : Nat, k ≤ 32 ∧ fu + k = 32 ∧ i = .int .i64 (k : Int) ∧ Hid (lessB a b = lessB (a.drop k) (b.drop k)) ∧ Hid (LsM w g2 g3 a b wk))
  case atStart => exact ⟨0, by omega, by omega, rfl, Lib.hid rfl, M⟩
  case round =>
    clear M
    obtain ⟨k, hk, hf, rfl, he, M⟩ := hrel
    by_cases hlt : k < 32
    · have hlti : (k : Int) < 32 := by omega
      have q2 := cell_bv M.out.a (by omega : k < a.length)
      have q3 := cell_bv M.out.b (by omega : k < b.length)
      have ea := List.drop_eq_getElem_cons (by omega : k < a.length)
      have eb := List.drop_eq_getElem_cons (by omega : k < b.length)
      have he2 := he.out
      rw [ea, eb, lessB_cons] at he2
      clear ea eb
      generalize a[k] = x at *
      generalize b[k] = y at *
      by_cases hxy : x = y
      · subst hxy
        rw [if_pos rfl] at he2
        replace he2 := Lib.hid he2
        go_wp2_with fail
        refine Txt.wp_text (by kernel_rfl) (by kernel_rfl) ?_
        replace M := Lib.hid (M.out.kept (Kept.refl [] _).drew)
        go_wp2_with fail
        refine ⟨rfl, by kernel_rfl, ?_⟩
        go_wp2_with fail
        go_roundg (32 - (k + 1))
        case measure => omega
        case rel => exact ⟨k + 1, by omega, by omega, by go_num, he2, M⟩
      · rw [if_neg hxy] at he2
        have hne : ¬ (x.toNat : Int) = y.toNat := fun h => hxy (UInt8.toNat_inj.1 (by omega))
        have hne2 : ¬ x.toNat = y.toNat := by omega
        replace he2 := Lib.hid he2
        clear he hxy
        generalize x.toNat = p at *
        generalize y.toNat = q at *
        go_wp2_with fail
        refine Txt.wp_text (by kernel_rfl) (by kernel_rfl) ?_
        replace M := Lib.hid (M.out.kept (Kept.refl [] _).drew)
        go_wp2_with fail
        refine ⟨rfl, by kernel_rfl, ?_⟩
        go_wp2_with fail
        refine Txt.wp_text (by kernel_rfl) (by kernel_rfl) ?_
        replace M := Lib.hid (M.out.kept (Kept.refl [] _).drew)
        go_wp2_with fail
        refine ⟨rfl, by kernel_rfl, ?_⟩
        go_wp2_with fail
        go_ret
        refine ⟨?_, M.out.k⟩
        rw [he2.out]
        rfl
    · obtain rfl : k = 32 := by omega
      have he2 := he.out
      rw [List.drop_of_length_le (by omega), List.drop_of_length_le (by omega)] at he2
      have hlti : ¬ ((32 : Nat) : Int) < 32 := by omega
      replace he2 := Lib.hid he2
      clear he
      go_wp2_with fail
      go_ret
      exact ⟨by rw [he2.out]; rfl, M.out.k⟩
end Go.Proofs.Ythffkgnbgncfaaa
