/-
  Field: limbs; carried.
-/
import Derived.Test.YthmpdhegodmjjaaRows
import Derived.Test.YthmpdhegodmjjaaFam
import Derived.Test.YthmpdhegodmjjaaText2
import Derived.Laws.Externs
import Derived.Laws.Bits64b
import Derived.Laws.Shifts
import Derived.WalkKit
import Derived.WalkSpells
import Derived.WalkLawsBesides
import Derived.Deep.LoopGhost
import Derived.Deep.DeepCutAuto
import Derived.Deep.CutBlock
namespace Go.Proofs.Ythmpdhegodmjjaa
open Go.RowKit Go.Mem

/-- Five limbs. -/
abbrev el (f : Nat → Nat) : Value := .agg (uv (fam 5 f)).toArray
theorem one_el (f : Nat → Nat) : (uv (fam 5 f)).toArray.all (·.oneCell') = true := one_uva _
theorem arr5 : ArrT Try.prog 25 24 5 := ⟨Try.underlying25, by kernel_rfl⟩
theorem structEl : RowT Try.prog 27 5 := ⟨⟨_, Try.underlying27, rfl⟩, by kernel_rfl⟩
def nought (_ : Nat) : Nat := 0
theorem zero5 : (Try.prog.info? 25).map (·.zero) = some (some (el nought)) := by kernel_rfl
theorem zeroEl : (Try.prog.info? 27).map (·.zero) = some (some (el nought)) := by kernel_rfl
theorem build5 : Try.prog.built 25 [] = some (uv (fam 5 nought)).toArray := by kernel_rfl
theorem Blk.eget {w : World} {g : Nat} {bt : TypeId} {n : Nat} {f : Nat → Nat} (h : Blk w g bt (uv (fam n f)).toArray) (i : Nat) (hi : i < n) : w.cell? ⟨g, i, none⟩ = some (.int .u64 (f i : Int)) := Blk.fget (v := fun z : Nat => Value.int .u64 (z : Int)) h i hi

def loL (f : Nat → Nat) (i : Nat) : Nat := f i % 2251799813685248
def hiL (f : Nat → Nat) (i : Nat) : Nat := f i / 2251799813685248
/-- The first limb, and what goes out above, 19 times. -/
def midL (f : Nat → Nat) (i : Nat) : Nat := if i = 0 then loL f 0 + 19 * hiL f 4 else loL f i
def carL (f : Nat → Nat) (i : Nat) : Nat := if i = 0 then loL f 0 + 19 * hiL f 4 else loL f i + hiL f (i - 1)
theorem mask51 (x : Nat) : x &&& 2251799813685247 = x % 2251799813685248 := Nat.and_two_pow_sub_one_eq_mod x 51
theorem and51 (x : Nat) (h : x < 18446744073709551616) : bits .and .u64 (x : Int) 2251799813685247 = ((x % 2251799813685248 : Nat) : Int) := by
  rw [← mask51]
  exact u64_and_nat x 2251799813685247 h (by omega)

/-- What lies in memory. -/
structure Car (w0 : World) (g1 g2 g3 : Nat) (f c : Nat → Nat) (u : World) : Prop where
  a : Blk u g1 27 (uv (fam 5 f)).toArray
  r : Blk u g2 27 (uv (fam 5 nought)).toArray
  c : Blk u g3 25 (uv (fam 5 c)).toArray
  k : Kept [] w0 u

structure Far3 (w0 : World) (g1 g2 g3 : Nat) : Prop where
  n12 : g1 ≠ g2
  n13 : g1 ≠ g3
  n23 : g2 ≠ g3
  l1 : w0.heap.size ≤ g1
  l2 : w0.heap.size ≤ g2
  l3 : w0.heap.size ≤ g3
theorem Car.setc {w0 : World} {g1 g2 g3 k : Nat} {f c h : Nat → Nat} {u : World} (H : Car w0 g1 g2 g3 f (mix c h k) u) (n : Far3 w0 g1 g2 g3) : Car w0 g1 g2 g3 f (mix c h (k + 1)) (u.setCell ⟨g3, k, none⟩ (.int .u64 (h k : Nat))) :=
  have hk : Kept [g3] u (u.setCell ⟨g3, k, none⟩ (.int .u64 (h k : Nat))) := (Kept.refl [g3] u).setCell (.inl (by simp)) _
  ⟨H.a.kept hk (by simpa using n.n13), H.r.kept hk (by simpa using n.n23), H.c.fstep (v := fun z : Nat => Value.int .u64 (z : Int)), H.k.then1 hk n.l3⟩
theorem Car.seta {w0 : World} {g1 g2 g3 k : Nat} {f c h : Nat → Nat} {u : World} (H : Car w0 g1 g2 g3 (mix f h k) c u) (n : Far3 w0 g1 g2 g3) : Car w0 g1 g2 g3 (mix f h (k + 1)) c (u.setCell ⟨g1, k, none⟩ (.int .u64 (h k : Nat))) :=
  have hk : Kept [g1] u (u.setCell ⟨g1, k, none⟩ (.int .u64 (h k : Nat))) := (Kept.refl [g1] u).setCell (.inl (by simp)) _
  ⟨H.a.fstep (v := fun z : Nat => Value.int .u64 (z : Int)), H.r.kept hk (by simpa using Ne.symm n.n12), H.c.kept hk (by simpa using Ne.symm n.n13), H.k.then1 hk n.l1⟩
theorem Car.drew {w0 : World} {g1 g2 g3 : Nat} {f c : Nat → Nat} {u : World} (H : Car w0 g1 g2 g3 f c u) : Car w0 g1 g2 g3 f c u.drew := ⟨H.a, H.r, H.c, H.k.drew⟩
theorem Car.same {w0 : World} {g1 g2 g3 : Nat} {f c f' c' : Nat → Nat} {u : World} (H : Car w0 g1 g2 g3 f c u) (hf : fam 5 f = fam 5 f') (hc : fam 5 c = fam 5 c') : Car w0 g1 g2 g3 f' c' u := ⟨hf ▸ H.a, H.r, hc ▸ H.c, H.k⟩

set_option maxRecDepth 100000 in
set_option maxHeartbeats 1600000 in
theorem carried_any (F : Nat → Nat) (w : World) (hF : ∀ i, i < 5 → F i < 18446744073709551616) :
    Calls Try.prog 31 #[el F] w fun e w' => e = .returned (el (carL F)) ∧ Kept [] w w' := by
  have hF2 := Lib.hid hF
  clear hF
  go_enter Try.func31, Try.ntmps31
  go_wp2_with (first
    | ((with_reducible refine wpl_box (o := ⟨some 1, _, _, _, _, _⟩) (v := el F) rfl (.tmp 0) rfl rfl ?_); intro g1 w1 m1)
    | ((with_reducible refine wpl_new (o := ⟨some 2, _, _, _, _, _⟩) rfl rfl zeroEl ?_); intro g2 w2 m2)
    | (refine wpl_build0 rfl rfl build5 ?_)
    | ((with_reducible refine wpl_new (o := ⟨some 3, _, _, _, _, _⟩) rfl rfl zero5 ?_); intro g3 w3 m3)
    | (refine wpl_store_arr arr5 rfl (.tmp 3) (.tmp 6) rfl rfl rfl m3.blk rfl rfl (one_el _) ?_; intro w4 b4 k4))
  have N := Lib.hid (show Far3 w g1 g2 g3 from ⟨m2.ne m1.blk.lt, m3.ne (m2.kept.lt m1.blk.lt), m3.ne m2.blk.lt, m1.le, Nat.le_trans m1.kept.size m2.le, Nat.le_trans (m1.kept.then0 m2.kept).size m3.le⟩)
  have H0 := Lib.hid (show Car w g1 g2 g3 (mix F (loL F) 0) (mix nought (hiL F) 0) w4 from
    ⟨by rw [mix_zero]; exact ((m1.blk.kept m2.kept (by simp)).kept m3.kept (by simp)).kept k4 (by simpa using N.out.n13), (m2.blk.kept m3.kept (by simp)).kept k4 (by simpa using N.out.n23), by rw [mix_zero]; exact b4, ((m1.kept.then0 m2.kept).then0 m3.kept).then1 k4 N.out.l3⟩)
  clear m1 m2 m3 b4 k4
  go_loopg [7] 5 (fun f i wk => ∃ k : Nat, k ≤ 5 ∧ f + k = 5 ∧ i = .int .i64 k ∧ Car w g1 g2 g3 (mix F (loL F) k) (mix nought (hiL F) k) wk)
  case atStart => exact ⟨0, Nat.zero_le _, rfl, rfl, H0.out⟩
  case round =>
    obtain ⟨k, hk, hf, rfl, hs⟩ := hrel
    have H := Lib.hid hs
    clear hs
    by_cases hlt : k < 5
    · have H1 := Lib.hid (H.out.setc N.out)
      have H2 := Lib.hid (H1.out.seta N.out)
      have c1 := Blk.eget H.out.a k hlt
      have c2 := Blk.eget H1.out.a k hlt
      rw [mix_at] at c1 c2
      have z1 := H.out.c.frozen k
      have z2 := H1.out.a.frozen k
      have c3 := Blk.eget H.out.c k hlt
      have hb := hF2.out k hlt
      have hm : bits .and .u64 ((F k : Nat) : Int) 2251799813685247 = ((loL F k : Nat) : Int) := and51 (F k) hb
      have hd : ((F k : Nat) : Int) / 2251799813685248 = ((hiL F k : Nat) : Int) := by unfold hiL; omega
      go_wp2_with fail
      go_roundg (5 - (k + 1))
      case measure => omega
      case rel => exact ⟨k + 1, by omega, by omega, by go_num, H2.out⟩
    · obtain rfl : k = 5 := by omega
      have H1 := Lib.hid (H.out.same (mix_full 5 F (loL F)) (mix_full 5 nought (hiL F)))
      have c1 := Blk.eget H1.out.a 0 (by omega)
      have c2 := Blk.eget H1.out.c 4 (by omega)
      have z1 := H1.out.a.frozen 0
      have hbs := Lib.hid (show ∀ i, i < 5 → loL F i < 2251799813685248 ∧ hiL F i < 8192 from fun i hi => by have := hF2.out i hi; unfold loL hiL; omega)
      have b1 := (hbs.out 0 (by omega)).1
      have b2 := (hbs.out 4 (by omega)).2
      have hmid : ((loL F 0 : Nat) : Int) + 19 * ((hiL F 4 : Nat) : Int) = ((midL F 0 : Nat) : Int) := by unfold midL; simp
      have H2 := Lib.hid (show Car w g1 g2 g3 (mix (midL F) (carL F) 1) (hiL F) (wr.setCell ⟨g1, 0, none⟩ (.int .u64 (midL F 0 : Nat))) from by
        have hk : Kept [g1] wr (wr.setCell ⟨g1, 0, none⟩ (.int .u64 (midL F 0 : Nat))) := (Kept.refl [g1] wr).setCell (.inl (by simp)) _
        have e : fam 5 (fun j => if j = 0 then midL F 0 else loL F j) = fam 5 (mix (midL F) (carL F) 1) := fam_ext 5 fun j _ => by
          unfold mix carL midL
          by_cases h : j = 0
          · subst h; rfl
          · rw [if_neg h, if_neg (by omega), if_neg h]
        have ha := H1.out.a.fset (v := fun z : Nat => Value.int .u64 (z : Int)) 0 (midL F 0)
        rw [e] at ha
        exact ⟨ha, H1.out.r.kept hk (by simpa using Ne.symm N.out.n12), H1.out.c.kept hk (by simpa using Ne.symm N.out.n13), H1.out.k.then1 hk N.out.l1⟩)
      go_wp2_with fail
      obtain ⟨wq, hwq⟩ : ∃ wq : World, wq = wr.setCell ⟨g1, 0, none⟩ (.int .u64 (midL F 0 : Nat)) := ⟨_, rfl⟩
      rw [← hwq] at H2 ⊢
      clear hwq H1 c1 c2 z1 b1 b2 hmid
      go_loopg [5] 4 (fun f i wk => ∃ k : Nat, 1 ≤ k ∧ k ≤ 5 ∧ f + k = 5 ∧ i = .int .i64 k ∧ Car w g1 g2 g3 (mix (midL F) (carL F) k) (hiL F) wk)
      case atStart => exact ⟨1, by omega, by omega, by omega, rfl, H2.out⟩
      case round =>
        obtain ⟨k, hk1, hk, hf, rfl, hs⟩ := hrel
        have H := Lib.hid hs
        clear hs
        by_cases hlt : k < 5
        · have H3 := Lib.hid (H.out.seta N.out)
          have c1 := Blk.eget H.out.a k hlt
          rw [mix_at] at c1
          have c2 := Blk.eget H.out.c (k - 1) (by omega)
          have z1 := H.out.a.frozen k
          have e1 : midL F k = loL F k := by unfold midL; rw [if_neg (by omega)]
          rw [e1] at c1
          have b1 := (hbs.out k (by omega)).1
          have b2 := (hbs.out (k - 1) (by omega)).2
          have hcar : ((loL F k : Nat) : Int) + ((hiL F (k - 1) : Nat) : Int) = ((carL F k : Nat) : Int) := by unfold carL; rw [if_neg (by omega)]; omega
          have hi1 : (1 : Int) ≤ (k : Int) := by omega
          have hi0 : (0 : Int) ≤ (k : Int) - 1 := by omega
          clear e1
          go_wp2_with fail
          refine Txt.wp_text (by kernel_rfl) (by kernel_rfl) ?_
          go_wp2_with fail
          refine ⟨rfl, by kernel_rfl, ?_⟩
          go_wp2_with fail
          go_roundg (5 - (k + 1))
          case measure => omega
          case rel => exact ⟨k + 1, by omega, by omega, by omega, by go_num, H3.out.drew⟩
        · obtain rfl : k = 5 := by omega
          have H3 := Lib.hid (H.out.same (mix_full 5 (midL F) (carL F)) rfl)
          go_wp2_with (first
            | (refine wpl_load_row structEl rfl (.tmp 1) rfl rfl H3.out.a rfl ?_)
            | (refine wpl_store_row structEl rfl (.tmp 2) (.tmp 49) rfl rfl rfl H3.out.r rfl rfl (one_el _) ?_; intro w8 b8 k8))
          exact ret_row structEl rfl rfl b8 rfl rfl ⟨rfl, H3.out.k.then1 k8 N.out.l2⟩
end Go.Proofs.Ythmpdhegodmjjaa
