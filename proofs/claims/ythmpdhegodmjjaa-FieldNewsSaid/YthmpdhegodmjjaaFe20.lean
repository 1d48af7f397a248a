/-
  Field: what roots come to.
-/
import Derived.Test.YthmpdhegodmjjaaFe19
namespace Go.Proofs.Ythmpdhegodmjjaa
open Go.RowKit Go.Mem Go.Txt

theorem Rep.small (v : Nat) (h : v < 18446744073709551616) : Rep (smL v) v := by
  refine ⟨fun i _ => ?_, by rw [small_val]⟩
  unfold smL
  split
  · omega
  · split <;> omega
def wM (u v : Nat) : Nat := mlM u (invM v)
def x1M (u v : Nat) : Nat := if mlM (tryM (wM u v)) (tryM (wM u v)) % PP = wM u v % PP then tryM (wM u v) else mlM (tryM (wM u v)) M1
def okM (u v : Nat) : Bool := decide (v % PP ≠ 0) && decide (mlM (x1M u v) (x1M u v) % PP = wM u v % PP)
def negM (x : Nat) : Nat := PP - x % PP
/-- The root that is told. -/
def rtM (u v : Nat) : Nat := if x1M u v % PP % 2 = 1 then negM (x1M u v) else x1M u v
theorem Rep.w {U V : Nat → Nat} {u v : Nat} (hu : Rep U u) (hv : Rep V v) : Rep (rtW U V) (wM u v) := hu.ml hv.inv
theorem Rep.x1 {U V : Nat → Nat} {u v : Nat} (hu : Rep U u) (hv : Rep V v) : Rep (rtX U V) (x1M u v) := by
  have hw := hu.w hv
  have hs := (hw.try).ml (hw.try)
  have hm := (hw.try).ml rep_m1
  unfold rtX x1M
  rw [hs.val, hw.val]
  split
  · exact hw.try
  · exact hm
theorem Rep.ok {U V : Nat → Nat} {u v : Nat} (hu : Rep U u) (hv : Rep V v) : rtB U V = okM u v := by
  have hw := hu.w hv
  have hx := hu.x1 hv
  unfold rtB okM
  rw [hv.val, hw.val, (hx.ml hx).val]
theorem Rep.neg {F : Nat → Nat} {x : Nat} (h : Rep F x) : Rep (carL (subL nought F)) (negM x) := by
  refine Rep.sub (x := 0) ⟨nought_lim, by unfold fv nought; simp⟩ h ?_
  unfold negM
  have hp := PP_pos
  have hm := Nat.mod_lt x hp
  have hd := Nat.div_add_mod x PP
  rw [show PP - x % PP + x = PP * (1 + x / PP) from by rw [Nat.mul_add]; omega, Nat.mul_mod_right, Nat.zero_mod]
theorem Rep.rt {U V : Nat → Nat} {u v : Nat} (hu : Rep U u) (hv : Rep V v) (hok : okM u v = true) : Rep (rtF U V) (rtM u v) := by
  have hx := hu.x1 hv
  unfold rtF rtM
  rw [hu.ok hv, hok, if_pos rfl, hx.val]
  split
  · exact hx.neg
  · exact hx
theorem rtF_no {U V : Nat → Nat} {u v : Nat} (hu : Rep U u) (hv : Rep V v) (hok : okM u v = false) : rtF U V = nought := by
  unfold rtF
  rw [hu.ok hv, hok]; rfl
theorem root_yes {U V : Nat → Nat} {u v : Nat} (hu : Rep U u) (hv : Rep V v) (hok : okM u v = true) (w : World) : Calls Try.prog 26 #[el U, el V] w fun e w' => e = .returned (.tuple #[el (rtF U V), .bool true]) ∧ Kept [] w w' := by
  have := root_any U V hu.lim hv.lim w
  rwa [hu.ok hv, hok] at this
theorem root_no {U V : Nat → Nat} {u v : Nat} (hu : Rep U u) (hv : Rep V v) (hok : okM u v = false) (w : World) : Calls Try.prog 26 #[el U, el V] w fun e w' => e = .returned (.tuple #[el nought, .bool false]) ∧ Kept [] w w' := by
  have := root_any U V hu.lim hv.lim w
  rwa [rtF_no hu hv hok, hu.ok hv, hok] at this
theorem hash_rep {F : Nat → Nat} {x y : Nat} (h : Rep F x) (e : x % PP = y) (w : World) : Calls Try.prog 14 #[el F] w fun e w' => e = .returned (ab (le y 32)) ∧ Kept [] w w' := by
  have := fhash_any F w h.lim
  rwa [h.val, e] at this
theorem ok41 : okM 4 1 = true := by decide +kernel
theorem rt41 : rtM 4 1 % PP = 2 := by decide +kernel
theorem ok21 : okM 2 1 = false := by decide +kernel
theorem inv2 : mlM 2 (invM 2) % PP = 1 := by decide +kernel
end Go.Proofs.Ythmpdhegodmjjaa
