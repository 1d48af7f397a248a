/-
  Slots: tallies of one's own; the first test.
-/
import Derived.Test.YthffkgnbgncfaaaSt15
namespace Go.Proofs.Ythffkgnbgncfaaa
open Go.RowKit Go.Mem Go.Txt

/-- A tally that came since. -/
def Ft (w0 u : World) (g : Nat) (f : Int) (l : List Vt) : Prop := ∃ v, Tl u g f l v ∧ Kept [] w0 u ∧ w0.heap.size ≤ g ∧ ∀ k, v.ownBlock = some k → w0.heap.size ≤ k
section
variable {w0 u u' : World} {g : Nat} {f : Int} {l : List Vt}
theorem Ft.k (h : Ft w0 u g f l) : Kept [] w0 u := by obtain ⟨_, _, h, _⟩ := h; exact h
theorem Ft.kept (h : Ft w0 u g f l) (hk : Kept [] u u') : Ft w0 u' g f l := by
  obtain ⟨v, h1, h2, h3, h4⟩ := h
  exact ⟨v, h1.kept hk, h2.then0 hk, h3, h4⟩
theorem Ft.ofs (h : Ft w0 u g f l) (hf : 0 ≤ f ∧ f ≤ 1000000) (hi : inR f l) (vw : Int) : Ofs u (.pointer (some ⟨g, 0, none⟩)) vw (ofv l vw) := by
  obtain ⟨v, h1, _⟩ := h
  exact h1.ofs hf hi vw
theorem ft_grow {v v' : Value} (hk : Kept [] w0 u) (hg : w0.heap.size ≤ g) (hv : ∀ k, v.ownBlock = some k → w0.heap.size ≤ k) (k1 : Kept (g :: v.ownBlock.toList) u u') (h : v'.ownBlock = v.ownBlock ∨ ∃ k, v'.ownBlock = some k ∧ u.heap.size ≤ k) :
    Kept [] w0 u' ∧ ∀ k, v'.ownBlock = some k → w0.heap.size ≤ k := by
  refine ⟨hk.fresh k1 fun k hm => ?_, fun k hm => ?_⟩
  · rcases List.mem_cons.1 hm with rfl | hm
    · exact hg
    · exact hv k (mem_own hm)
  · rcases h with h | ⟨k', h, h2⟩
    · exact hv k (h ▸ hm)
    · rw [h] at hm; cases hm; exact Nat.le_trans hk.size h2
/-- A vote added. -/
abbrev AddC (u : World) (g : Nat) (x : Vt) (R : Ending → World → Prop) : Prop := Calls Try.prog 8 #[.pointer (some ⟨g, 0, none⟩), .int .i64 x.fr, .int .i64 x.vw, ab x.h, ab x.s] u R
theorem Ft.add (h : Ft w0 u g f l) (hf : 0 ≤ f ∧ f ≤ 1000000) {x : Vt} (hx : x.ok) (hn : l.length < 1000000) : AddC u g x fun e w' => e = .returned (.bool (okv f l x)) ∧ Ft w0 w' g f (addv f l x) := by
  obtain ⟨v, h1, h2, h3, h4⟩ := h
  refine (add_any h1 hf hx (by omega)).mono ?_
  rintro e w' ⟨rfl, v', t', k', n'⟩
  obtain ⟨a, b⟩ := ft_grow h2 h3 h4 k' n'
  exact ⟨rfl, v', t', a, h3, b⟩
end
/-- A hash of one byte. -/
def hv (b : UInt8) : List UInt8 := b :: noughts 31
theorem hv_len (b : UInt8) : (hv b).length = 32 := by simp [hv]
theorem hv_built (b : UInt8) : Try.prog.built 30 [(0, .int .u8 b.toNat)] = some (bv (hv b)).toArray := by kernel_rfl
theorem sg_built : Try.prog.built 31 [] = some (bv (noughts 64)).toArray := by kernel_rfl
def vt (fr vw : Int) (b : UInt8) (s : List UInt8) : Vt := ⟨fr, vw, hv b, s⟩
theorem vt_ok (fr vw : Int) (b : UInt8) {s : List UInt8} (hs : s.length = 64) : (vt fr vw b s).ok := ⟨hv_len b, hs⟩
def V0 : Vt := vt 0 5 1 (noughts 64)
def V1 : Vt := vt 1 5 1 (noughts 64)
def V2 : Vt := vt 1 5 2 (noughts 64)
def V3 : Vt := vt 3 5 1 (noughts 64)
theorem f0 : okv 1 [] V0 = true ∧ addv 1 [] V0 = [V0] := ⟨by decide, by rfl⟩
theorem f1 : okv 1 [V0] V1 = true ∧ addv 1 [V0] V1 = [V0, V1] := ⟨by decide, by rfl⟩
theorem f2 : okv 1 [V0, V1] V2 = false ∧ addv 1 [V0, V1] V2 = [V0, V1] := ⟨by decide, by rfl⟩
theorem f3 : okv 1 [V0, V1] V3 = true ∧ addv 1 [V0, V1] V3 = [V0, V1, V3] := ⟨by decide, by rfl⟩
theorem c2 : (saidv (ofv [V0, V1] 5) (hv 1)).length = 2 := by decide
theorem c3 : (saidv (ofv [V0, V1, V3] 5) (hv 1)).length = 3 := by decide
theorem r2 : inR 1 [V0, V1] := by unfold inR; decide
theorem r3 : inR 1 [V0, V1, V3] := by unfold inR; decide
end Go.Proofs.Ythffkgnbgncfaaa
