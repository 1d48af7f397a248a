/-
  The log: appended to a disk, whether it is down: for WalReads and WalPlays.
-/
import Derived.Test.YtjdfnhfankcodaaWl10
import Derived.Test.YtjdfnhfankcodaaOpn
namespace Go.Proofs.Ytjdfnhfankcodaa
open Go.RowKit Go.Mem Go.Txt

theorem rsz_sayF : ∀ (f i : Nat) (xs : List UInt8), rsz (sayF f i xs) ≤ xs.length
  | 0, i, xs => by rw [sayF]; exact Nat.zero_le _
  | f + 1, i, xs => by
    rw [sayF]
    split
    · exact Nat.zero_le _
    · split
      · exact Nat.zero_le _
      · split
        · have := rsz_sayF f (i + 1) (xs.drop (16 + beV (xs.take 8)))
          simp only [rsz, List.length_take, List.length_drop] at this ⊢
          omega
        · exact Nat.zero_le _
theorem rsz_says (xs : List UInt8) : rsz (says xs) ≤ xs.length := rsz_sayF _ _ _
theorem dapp_any {w0 w : World} {b size safe : Nat} {dv pv : Value} {xs : List UInt8} {ps : List (Value × List UInt8)} (h : Dw w0 w b size safe dv xs) (hp : Dk.Parts w (b :: dv.ownBlock.toList) pv ps)
    (hsz : (size : Int) ≤ 9223372036854775807) (hn : (ps.length : Int) ≤ 9223372036854775807) (hf : xs.length + Dk.total ps ≤ size) (hroom : xs.length + Dk.total ps ≤ 140737488355328) :
    Calls Try.prog 9 #[.pointer (some ⟨b, 0, none⟩), pv] w fun e w' => e = .returned (.int .i64 0) ∧ ∃ dv', Dw w0 w' b size safe dv' (xs ++ Dk.joined ps) ∧ Kept (b :: dv.ownBlock.toList) w w' := by
  refine (Dk.append_ok b size safe dv pv xs ps w h.disk hp hsz hn hf hroom).mono ?_
  rintro e w' ⟨rfl, v', h1, h2, h3⟩
  refine ⟨rfl, v', ⟨h1, h.lb, fun k hk => ?_, Kept.fresh h.k h2 (fun k hk => ?_)⟩, h2⟩
  · rcases h3 with e | ⟨g, e, hg⟩
    · exact h.ld k (by rw [← e]; exact hk)
    · rw [e] at hk; cases hk
      exact Nat.le_trans h.k.size hg
  · rcases List.mem_cons.1 hk with rfl | hk
    · exact h.lb
    · exact h.ld k (mem_own hk)
theorem ldown_any {w : World} {b l : Nat} {rv : Value} {rs : List (Value × List UInt8)} {dn : Bool} (h : LgIs w b l rv rs dn) :
    Calls Try.prog 15 #[.pointer (some ⟨l, 0, none⟩)] w fun e w' => e = .returned (.bool dn) ∧ Kept [] w w' := by
  have q1 : w.cell? ⟨l, 2, none⟩ = some (.bool dn) := by rw [h.blk.cell]; rfl
  go_enter Try.func15, Try.ntmps15
  go_wp2_with fail
  go_ret
  exact ⟨rfl, Kept.refl _ _⟩
theorem dbytes_any {w0 w : World} {b size safe : Nat} {dv : Value} {xs : List UInt8} (h : Dw w0 w b size safe dv xs) (hx : xs.length ≤ 140737488355328) :
    Calls Try.prog 14 #[.pointer (some ⟨b, 0, none⟩)] w fun e w' => ∃ A c, e = .returned (.slice A xs.length c) ∧ Rd w' 1 (.slice A xs.length c) xs.length (bv xs) ∧ Kept [] w w' := by
  refine (Dk.bytes_any b size safe dv xs w h.disk hx).mono ?_
  rintro e w' ⟨v', rfl, h1, h2, _⟩
  have hr := Rd.of_own h1
  obtain ⟨A, c, rfl, _⟩ := Rd.of_own h1
  exact ⟨A, c, rfl, hr, h2⟩
end Go.Proofs.Ytjdfnhfankcodaa
