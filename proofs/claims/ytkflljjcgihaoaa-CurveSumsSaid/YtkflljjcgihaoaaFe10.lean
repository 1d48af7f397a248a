/-
  Field: limbs; carried.
  Field: sums, differences, small numbers.
  Field: small numbers; what sums and differences come to.
  Field: numbers and their bytes (as in sc4, sc5).
  Field: a number's bytes: what is reckoned.
  Field: a number's bytes: the words' bits.
  Field: a number's bytes: the walk.
  math/bits.Mul64: the product in two words.
  Field: products of two words, added up.
  Field: sums of products, gathered.
  Field: what products come to: the plain law.
  A region that draws its order, walked in the text's order, where a reading may float over what acts: the text is walked in segments, each ending with what acts; in every world between two segments a property S holds; what floats reads the same in every world of S.
  A region that draws its order, walked in segments: the theorem.
  What floats over calls: loads of whole rows, equalities of arrays.
  A region that draws its order, as in Text4, by a check that goes for great regions too.
  Field: sums of products, gathered: the walk.
  Field: words for products: sums of products in a row, and where they lie.
-/
import Derived.Test.YtkflljjcgihaoaaRows
import Derived.Test.YtkflljjcgihaoaaText2
import Derived.Laws.Externs
import Derived.Laws.Bits64b
import Derived.Laws.Shifts
import Derived.WalkKit
import Derived.WalkSpells
import Derived.WalkLawsBesides
import Derived.Deep.LoopGhost
import Derived.Deep.DeepCutAuto
import Derived.Deep.CutBlock
import Derived.BigQuiet
import Derived.Deep.QuietTactic
import Derived.Lib.Mul64
import Derived.Lib.Hide
import Derived.Laws.MathBits
namespace Go.Proofs.Ytkflljjcgihaoaa
open Go.RowKit Go.Mem

/-- Five limbs. -/
abbrev el (f : Nat → Nat) : Value := .agg (uv (fam 5 f)).toArray
theorem one_el (f : Nat → Nat) : (uv (fam 5 f)).toArray.all (·.oneCell') = true := one_uva _
theorem arr5 : ArrT Try.prog 25 24 5 := ⟨Try.underlying25, by kernel_rfl⟩
theorem structEl : RowT Try.prog 27 5 := ⟨⟨_, Try.underlying27, rfl⟩, by kernel_rfl⟩
def nought (_ : Nat) : Nat := 0
theorem zero5 : (Try.prog.info? 25).map (·.zero) = some (some (el nought)) := by kernel_rfl
theorem zeroEl : (Try.prog.info? 27).map (·.zero) = some (some (el nought)) := by kernel_rfl
theorem build5 : Try.prog.built 25 [] = some (uv (fam 5 nought)).toArray := by kernel_rfl
theorem Blk.eget {w : World} {g : Nat} {bt : TypeId} {n : Nat} {f : Nat → Nat} (h : Blk w g bt (uv (fam n f)).toArray) (i : Nat) (hi : i < n) : w.cell? ⟨g, i, none⟩ = some (.int .u64 (f i : Int)) := Blk.fget (v := fun z : Nat => Value.int .u64 (z : Int)) h i hi

def loL (f : Nat → Nat) (i : Nat) : Nat := f i % 2251799813685248
def hiL (f : Nat → Nat) (i : Nat) : Nat := f i / 2251799813685248
/-- The first limb, and what goes out above, 19 times. -/
def midL (f : Nat → Nat) (i : Nat) : Nat := if i = 0 then loL f 0 + 19 * hiL f 4 else loL f i
def carL (f : Nat → Nat) (i : Nat) : Nat := if i = 0 then loL f 0 + 19 * hiL f 4 else loL f i + hiL f (i - 1)
theorem mask51 (x : Nat) : x &&& 2251799813685247 = x % 2251799813685248 := Nat.and_two_pow_sub_one_eq_mod x 51
theorem and51 (x : Nat) (h : x < 18446744073709551616) : bits .and .u64 (x : Int) 2251799813685247 = ((x % 2251799813685248 : Nat) : Int) := by
  rw [← mask51]
  exact u64_and_nat x 2251799813685247 h (by omega)

/-- What lies in memory. -/
structure Car (w0 : World) (g1 g2 g3 : Nat) (f c : Nat → Nat) (u : World) : Prop where
  a : Blk u g1 27 (uv (fam 5 f)).toArray
  r : Blk u g2 27 (uv (fam 5 nought)).toArray
  c : Blk u g3 25 (uv (fam 5 c)).toArray
  k : Kept [] w0 u

structure Far3 (w0 : World) (g1 g2 g3 : Nat) : Prop where
  n12 : g1 ≠ g2
  n13 : g1 ≠ g3
  n23 : g2 ≠ g3
  l1 : w0.heap.size ≤ g1
  l2 : w0.heap.size ≤ g2
  l3 : w0.heap.size ≤ g3
theorem Car.setc {w0 : World} {g1 g2 g3 k : Nat} {f c h : Nat → Nat} {u : World} (H : Car w0 g1 g2 g3 f (mix c h k) u) (n : Far3 w0 g1 g2 g3) : Car w0 g1 g2 g3 f (mix c h (k + 1)) (u.setCell ⟨g3, k, none⟩ (.int .u64 (h k : Nat))) :=
  have hk : Kept [g3] u (u.setCell ⟨g3, k, none⟩ (.int .u64 (h k : Nat))) := (Kept.refl [g3] u).setCell (.inl (by simp)) _
  ⟨H.a.kept hk (by simpa using n.n13), H.r.kept hk (by simpa using n.n23), H.c.fstep (v := fun z : Nat => Value.int .u64 (z : Int)), H.k.then1 hk n.l3⟩
theorem Car.seta {w0 : World} {g1 g2 g3 k : Nat} {f c h : Nat → Nat} {u : World} (H : Car w0 g1 g2 g3 (mix f h k) c u) (n : Far3 w0 g1 g2 g3) : Car w0 g1 g2 g3 (mix f h (k + 1)) c (u.setCell ⟨g1, k, none⟩ (.int .u64 (h k : Nat))) :=
  have hk : Kept [g1] u (u.setCell ⟨g1, k, none⟩ (.int .u64 (h k : Nat))) := (Kept.refl [g1] u).setCell (.inl (by simp)) _
  ⟨H.a.fstep (v := fun z : Nat => Value.int .u64 (z : Int)), H.r.kept hk (by simpa using Ne.symm n.n12), H.c.kept hk (by simpa using Ne.symm n.n13), H.k.then1 hk n.l1⟩
theorem Car.drew {w0 : World} {g1 g2 g3 : Nat} {f c : Nat → Nat} {u : World} (H : Car w0 g1 g2 g3 f c u) : Car w0 g1 g2 g3 f c u.drew := ⟨H.a, H.r, H.c, H.k.drew⟩
theorem Car.same {w0 : World} {g1 g2 g3 : Nat} {f c f' c' : Nat → Nat} {u : World} (H : Car w0 g1 g2 g3 f c u) (hf : fam 5 f = fam 5 f') (hc : fam 5 c = fam 5 c') : Car w0 g1 g2 g3 f' c' u := ⟨hf ▸ H.a, H.r, hc ▸ H.c, H.k⟩

set_option maxRecDepth 100000 in
set_option maxHeartbeats 1600000 in
theorem carried_any (F : Nat → Nat) (w : World) (hF : ∀ i, i < 5 → F i < 18446744073709551616) :
    Calls Try.prog 74 #[el F] w fun e w' => e = .returned (el (carL F)) ∧ Kept [] w w' := by
  have hF2 := Lib.hid hF
  clear hF
  go_enter Try.func74, Try.ntmps74
  go_wp2_with (first
    | ((with_reducible refine wpl_box (o := ⟨some 1, _, _, _, _, _⟩) (v := el F) rfl (.tmp 0) rfl rfl ?_); intro g1 w1 m1)
    | ((with_reducible refine wpl_new (o := ⟨some 2, _, _, _, _, _⟩) rfl rfl zeroEl ?_); intro g2 w2 m2)
    | (refine wpl_build0 rfl rfl build5 ?_)
    | ((with_reducible refine wpl_new (o := ⟨some 3, _, _, _, _, _⟩) rfl rfl zero5 ?_); intro g3 w3 m3)
    | (refine wpl_store_arr arr5 rfl (.tmp 3) (.tmp 6) rfl rfl rfl m3.blk rfl rfl (one_el _) ?_; intro w4 b4 k4))
  have N := Lib.hid (show Far3 w g1 g2 g3 from ⟨m2.ne m1.blk.lt, m3.ne (m2.kept.lt m1.blk.lt), m3.ne m2.blk.lt, m1.le, Nat.le_trans m1.kept.size m2.le, Nat.le_trans (m1.kept.then0 m2.kept).size m3.le⟩)
  have H0 := Lib.hid (show Car w g1 g2 g3 (mix F (loL F) 0) (mix nought (hiL F) 0) w4 from
    ⟨by rw [mix_zero]; exact ((m1.blk.kept m2.kept (by simp)).kept m3.kept (by simp)).kept k4 (by simpa using N.out.n13), (m2.blk.kept m3.kept (by simp)).kept k4 (by simpa using N.out.n23), by rw [mix_zero]; exact b4, ((m1.kept.then0 m2.kept).then0 m3.kept).then1 k4 N.out.l3⟩)
  clear m1 m2 m3 b4 k4
  go_loopg [7] 5 (fun f i wk => ∃ k : Nat, k ≤ 5 ∧ f + k = 5 ∧ i = .int .i64 k ∧ Car w g1 g2 g3 (mix F (loL F) k) (mix nought (hiL F) k) wk)
  case atStart => exact ⟨0, Nat.zero_le _, rfl, rfl, H0.out⟩
  case round =>
    obtain ⟨k, hk, hf, rfl, hs⟩ := hrel
    have H := Lib.hid hs
    clear hs
    by_cases hlt : k < 5
    · have H1 := Lib.hid (H.out.setc N.out)
      have H2 := Lib.hid (H1.out.seta N.out)
      have c1 := Blk.eget H.out.a k hlt
      have c2 := Blk.eget H1.out.a k hlt
      rw [mix_at] at c1 c2
      have z1 := H.out.c.frozen k
      have z2 := H1.out.a.frozen k
      have c3 := Blk.eget H.out.c k hlt
      have hb := hF2.out k hlt
      have hm : bits .and .u64 ((F k : Nat) : Int) 2251799813685247 = ((loL F k : Nat) : Int) := and51 (F k) hb
      have hd : ((F k : Nat) : Int) / 2251799813685248 = ((hiL F k : Nat) : Int) := by unfold hiL; omega
      go_wp2_with fail
      go_roundg (5 - (k + 1))
      case measure => omega
      case rel => exact ⟨k + 1, by omega, by omega, by go_num, H2.out⟩
    · obtain rfl : k = 5 := by omega
      have H1 := Lib.hid (H.out.same (mix_full 5 F (loL F)) (mix_full 5 nought (hiL F)))
      have c1 := Blk.eget H1.out.a 0 (by omega)
      have c2 := Blk.eget H1.out.c 4 (by omega)
      have z1 := H1.out.a.frozen 0
      have hbs := Lib.hid (show ∀ i, i < 5 → loL F i < 2251799813685248 ∧ hiL F i < 8192 from fun i hi => by have := hF2.out i hi; unfold loL hiL; omega)
      have b1 := (hbs.out 0 (by omega)).1
      have b2 := (hbs.out 4 (by omega)).2
      have hmid : ((loL F 0 : Nat) : Int) + 19 * ((hiL F 4 : Nat) : Int) = ((midL F 0 : Nat) : Int) := by unfold midL; simp
      have H2 := Lib.hid (show Car w g1 g2 g3 (mix (midL F) (carL F) 1) (hiL F) (wr.setCell ⟨g1, 0, none⟩ (.int .u64 (midL F 0 : Nat))) from by
        have hk : Kept [g1] wr (wr.setCell ⟨g1, 0, none⟩ (.int .u64 (midL F 0 : Nat))) := (Kept.refl [g1] wr).setCell (.inl (by simp)) _
        have e : fam 5 (fun j => if j = 0 then midL F 0 else loL F j) = fam 5 (mix (midL F) (carL F) 1) := fam_ext 5 fun j _ => by
          unfold mix carL midL
          by_cases h : j = 0
          · subst h; rfl
          · rw [if_neg h, if_neg (by omega), if_neg h]
        have ha := H1.out.a.fset (v := fun z : Nat => Value.int .u64 (z : Int)) 0 (midL F 0)
        rw [e] at ha
        exact ⟨ha, H1.out.r.kept hk (by simpa using Ne.symm N.out.n12), H1.out.c.kept hk (by simpa using Ne.symm N.out.n13), H1.out.k.then1 hk N.out.l1⟩)
      go_wp2_with fail
      obtain ⟨wq, hwq⟩ : ∃ wq : World, wq = wr.setCell ⟨g1, 0, none⟩ (.int .u64 (midL F 0 : Nat)) := ⟨_, rfl⟩
      rw [← hwq] at H2 ⊢
      clear hwq H1 c1 c2 z1 b1 b2 hmid
      go_loopg [5] 4 (fun f i wk => ∃ k : Nat, 1 ≤ k ∧ k ≤ 5 ∧ f + k = 5 ∧ i = .int .i64 k ∧ Car w g1 g2 g3 (mix (midL F) (carL F) k) (hiL F) wk)
      case atStart => exact ⟨1, by omega, by omega, by omega, rfl, H2.out⟩
      case round =>
        obtain ⟨k, hk1, hk, hf, rfl, hs⟩ := hrel
        have H := Lib.hid hs
        clear hs
        by_cases hlt : k < 5
        · have H3 := Lib.hid (H.out.seta N.out)
          have c1 := Blk.eget H.out.a k hlt
          rw [mix_at] at c1
          have c2 := Blk.eget H.out.c (k - 1) (by omega)
          have z1 := H.out.a.frozen k
          have e1 : midL F k = loL F k := by unfold midL; rw [if_neg (by omega)]
          rw [e1] at c1
          have b1 := (hbs.out k (by omega)).1
          have b2 := (hbs.out (k - 1) (by omega)).2
          have hcar : ((loL F k : Nat) : Int) + ((hiL F (k - 1) : Nat) : Int) = ((carL F k : Nat) : Int) := by unfold carL; rw [if_neg (by omega)]; omega
          have hi1 : (1 : Int) ≤ (k : Int) := by omega
          have hi0 : (0 : Int) ≤ (k : Int) - 1 := by omega
          clear e1
          go_wp2_with fail
          refine Txt.wp_text (by kernel_rfl) (by kernel_rfl) ?_
          go_wp2_with fail
          refine ⟨rfl, by kernel_rfl, ?_⟩
          go_wp2_with fail
          go_roundg (5 - (k + 1))
          case measure => omega
          case rel => exact ⟨k + 1, by omega, by omega, by omega, by go_num, H3.out.drew⟩
        · obtain rfl : k = 5 := by omega
          have H3 := Lib.hid (H.out.same (mix_full 5 (midL F) (carL F)) rfl)
          go_wp2_with (first
            | (refine wpl_load_row structEl rfl (.tmp 1) rfl rfl H3.out.a rfl ?_)
            | (refine wpl_store_row structEl rfl (.tmp 2) (.tmp 49) rfl rfl rfl H3.out.r rfl rfl (one_el _) ?_; intro w8 b8 k8))
          exact ret_row structEl rfl rfl b8 rfl rfl ⟨rfl, H3.out.k.then1 k8 N.out.l2⟩
end Go.Proofs.Ytkflljjcgihaoaa

namespace Go.Proofs.Ytkflljjcgihaoaa
open Go.RowKit Go.Mem

/-- Limbs a little more than 51 bits. -/
def Lim (F : Nat → Nat) : Prop := ∀ i, i < 5 → F i < 4503599627370496
/-- What limbs come to. -/
def fv (F : Nat → Nat) : Nat := F 0 + 2251799813685248 * F 1 + 5070602400912917605986812821504 * F 2 + 11417981541647679048466287755595961091061972992 * F 3 + 25711008708143844408671393477458601640355247900524685364822016 * F 4
def PP : Nat := 57896044618658097711785492504343953926634992332820282019728792003956564819949
theorem PP_pos : 0 < PP := by decide +kernel
theorem carL_lim (F : Nat → Nat) (h : ∀ i, i < 5 → F i < 18446744073709551616) : Lim (carL F) := by
  intro i hi
  have h4 := h 4 (by omega)
  have hi2 := h i hi
  have hi3 := h (i - 1) (by omega)
  unfold carL loL hiL
  split <;> omega
theorem carL_val (F : Nat → Nat) : fv (carL F) + PP * hiL F 4 = fv F := by
  unfold fv
  rw [show carL F 0 = loL F 0 + 19 * hiL F 4 from rfl, show carL F 1 = loL F 1 + hiL F 0 from rfl, show carL F 2 = loL F 2 + hiL F 1 from rfl, show carL F 3 = loL F 3 + hiL F 2 from rfl, show carL F 4 = loL F 4 + hiL F 3 from rfl]
  unfold PP loL hiL
  omega
theorem carL_mod (F : Nat → Nat) : fv (carL F) % PP = fv F % PP := by
  rw [← carL_val F, Nat.add_mul_mod_self_left]

/-- What lies in memory. -/
structure Two (w0 : World) (g2 g3 g4 : Nat) (f c : Nat → Nat) (u : World) : Prop where
  a : Blk u g2 27 (uv (fam 5 f)).toArray
  b : Blk u g3 27 (uv (fam 5 c)).toArray
  r : Blk u g4 27 (uv (fam 5 nought)).toArray
  k : Kept [] w0 u
theorem Two.seta {w0 : World} {g1 g2 g3 k : Nat} {f c h : Nat → Nat} {u : World} (H : Two w0 g1 g2 g3 (mix f h k) c u) (n : Far3 w0 g1 g2 g3) : Two w0 g1 g2 g3 (mix f h (k + 1)) c (u.setCell ⟨g1, k, none⟩ (.int .u64 (h k : Nat))) :=
  have hk : Kept [g1] u (u.setCell ⟨g1, k, none⟩ (.int .u64 (h k : Nat))) := (Kept.refl [g1] u).setCell (.inl (by simp)) _
  ⟨H.a.fstep (v := fun z : Nat => Value.int .u64 (z : Int)), H.b.kept hk (by simpa using Ne.symm n.n12), H.r.kept hk (by simpa using Ne.symm n.n13), H.k.then1 hk n.l1⟩
theorem Two.drew {w0 : World} {g1 g2 g3 : Nat} {f c : Nat → Nat} {u : World} (H : Two w0 g1 g2 g3 f c u) : Two w0 g1 g2 g3 f c u.drew := ⟨H.a, H.b, H.r, H.k.drew⟩
theorem Two.kept {w0 : World} {g1 g2 g3 : Nat} {f c : Nat → Nat} {u u' : World} (H : Two w0 g1 g2 g3 f c u) (hk : Kept [] u u') : Two w0 g1 g2 g3 f c u' := ⟨H.a.kept hk (by simp), H.b.kept hk (by simp), H.r.kept hk (by simp), H.k.then0 hk⟩
theorem Two.same {w0 : World} {g1 g2 g3 : Nat} {f c f' : Nat → Nat} {u : World} (H : Two w0 g1 g2 g3 f c u) (hf : fam 5 f = fam 5 f') : Two w0 g1 g2 g3 f' c u := ⟨hf ▸ H.a, H.b, H.r, H.k⟩

def addL (F G : Nat → Nat) (i : Nat) : Nat := F i + G i
def preL (F G : Nat → Nat) (i : Nat) : Nat := F i + (9007199254740988 - G i)
def subL (F G : Nat → Nat) (i : Nat) : Nat := if i = 0 then preL F G 0 - 72 else preL F G i

set_option maxRecDepth 100000 in
set_option maxHeartbeats 1600000 in
theorem fadd_any (F G : Nat → Nat) (w : World) (hF : Lim F) (hG : Lim G) :
    Calls Try.prog 38 #[el F, el G] w fun e w' => e = .returned (el (carL (addL F G))) ∧ Kept [] w w' := by
  have hL := Lib.hid (And.intro hF hG)
  have hcar := Lib.hid (fun W => carried_any (addL F G) W (fun i hi => by have := hF i hi; have := hG i hi; unfold addL; omega))
  clear hF hG
  go_enter Try.func38, Try.ntmps38
  go_wp2_with (first
    | ((with_reducible refine wpl_box (o := ⟨some 2, _, _, _, _, _⟩) (v := el F) rfl (.tmp 0) rfl rfl ?_); intro g1 w1 m1)
    | ((with_reducible refine wpl_box (o := ⟨some 3, _, _, _, _, _⟩) (v := el G) rfl (.tmp 1) rfl rfl ?_); intro g2 w2 m2)
    | ((with_reducible refine wpl_new (o := ⟨some 4, _, _, _, _, _⟩) rfl rfl zeroEl ?_); intro g3 w3 m3))
  have N := Lib.hid (show Far3 w g1 g2 g3 from ⟨m2.ne m1.blk.lt, m3.ne (m2.kept.lt m1.blk.lt), m3.ne m2.blk.lt, m1.le, Nat.le_trans m1.kept.size m2.le, Nat.le_trans (m1.kept.then0 m2.kept).size m3.le⟩)
  have H0 := Lib.hid (show Two w g1 g2 g3 (mix F (addL F G) 0) G w3 from
    ⟨by rw [mix_zero]; exact (m1.blk.kept m2.kept (by simp)).kept m3.kept (by simp), m2.blk.kept m3.kept (by simp), m3.blk, (m1.kept.then0 m2.kept).then0 m3.kept⟩)
  clear m1 m2 m3
  go_loopg [6] 5 (fun f i wk => ∃ k : Nat, k ≤ 5 ∧ f + k = 5 ∧ i = .int .i64 k ∧ Two w g1 g2 g3 (mix F (addL F G) k) G wk)
  case atStart => exact ⟨0, Nat.zero_le _, rfl, rfl, H0.out⟩
  case round =>
    obtain ⟨k, hk, hf, rfl, hs⟩ := hrel
    have H := Lib.hid hs
    clear hs
    by_cases hlt : k < 5
    · have H1 := Lib.hid (H.out.seta N.out)
      have c1 := Blk.eget H.out.a k hlt
      rw [mix_at] at c1
      have c2 := Blk.eget H.out.b k hlt
      have z1 := H.out.a.frozen k
      have b1 := hL.out.1 k hlt
      have b2 := hL.out.2 k hlt
      have hs : ((F k : Nat) : Int) + ((G k : Nat) : Int) = ((addL F G k : Nat) : Int) := by unfold addL; omega
      go_wp2_with fail
      refine Txt.wp_text (by kernel_rfl) (by kernel_rfl) ?_
      go_wp2_with fail
      refine ⟨rfl, by kernel_rfl, ?_⟩
      go_wp2_with fail
      go_roundg (5 - (k + 1))
      case measure => omega
      case rel => exact ⟨k + 1, by omega, by omega, by go_num, H1.out.drew⟩
    · obtain rfl : k = 5 := by omega
      have H3 := Lib.hid (H.out.same (mix_full 5 F (addL F G)))
      go_wp2_with (first
        | (refine wpl_load_row structEl rfl (.tmp 2) rfl rfl H3.out.a rfl ?_)
        | (go_at_call 74; refine (hcar.out _).mono ?_; rintro e w6 ⟨rfl, k6⟩; have H4 := Lib.hid (H3.out.kept k6); clear k6)
        | (refine wpl_store_row structEl rfl (.tmp 4) (.tmp 22) rfl rfl rfl H4.out.r rfl rfl (one_el _) ?_; intro w8 b8 k8))
      exact ret_row structEl rfl rfl b8 rfl rfl ⟨rfl, H4.out.k.then1 k8 N.out.l3⟩

set_option maxRecDepth 100000 in
set_option maxHeartbeats 1600000 in
theorem fsub_any (F G : Nat → Nat) (w : World) (hF : Lim F) (hG : Lim G) :
    Calls Try.prog 36 #[el F, el G] w fun e w' => e = .returned (el (carL (subL F G))) ∧ Kept [] w w' := by
  have hL := Lib.hid (And.intro hF hG)
  have hcar := Lib.hid (fun W => carried_any (subL F G) W (fun i hi => by have := hF i hi; have := hF 0 (by omega); unfold subL preL; split <;> omega))
  clear hF hG
  go_enter Try.func36, Try.ntmps36
  go_wp2_with (first
    | ((with_reducible refine wpl_box (o := ⟨some 2, _, _, _, _, _⟩) (v := el F) rfl (.tmp 0) rfl rfl ?_); intro g1 w1 m1)
    | ((with_reducible refine wpl_box (o := ⟨some 3, _, _, _, _, _⟩) (v := el G) rfl (.tmp 1) rfl rfl ?_); intro g2 w2 m2)
    | ((with_reducible refine wpl_new (o := ⟨some 4, _, _, _, _, _⟩) rfl rfl zeroEl ?_); intro g3 w3 m3))
  have N := Lib.hid (show Far3 w g1 g2 g3 from ⟨m2.ne m1.blk.lt, m3.ne (m2.kept.lt m1.blk.lt), m3.ne m2.blk.lt, m1.le, Nat.le_trans m1.kept.size m2.le, Nat.le_trans (m1.kept.then0 m2.kept).size m3.le⟩)
  have H0 := Lib.hid (show Two w g1 g2 g3 (mix F (preL F G) 0) G w3 from
    ⟨by rw [mix_zero]; exact (m1.blk.kept m2.kept (by simp)).kept m3.kept (by simp), m2.blk.kept m3.kept (by simp), m3.blk, (m1.kept.then0 m2.kept).then0 m3.kept⟩)
  clear m1 m2 m3
  go_loopg [6] 5 (fun f i wk => ∃ k : Nat, k ≤ 5 ∧ f + k = 5 ∧ i = .int .i64 k ∧ Two w g1 g2 g3 (mix F (preL F G) k) G wk)
  case atStart => exact ⟨0, Nat.zero_le _, rfl, rfl, H0.out⟩
  case round =>
    obtain ⟨k, hk, hf, rfl, hs⟩ := hrel
    have H := Lib.hid hs
    clear hs
    by_cases hlt : k < 5
    · have H1 := Lib.hid (H.out.seta N.out)
      have c1 := Blk.eget H.out.a k hlt
      rw [mix_at] at c1
      have c2 := Blk.eget H.out.b k hlt
      have z1 := H.out.a.frozen k
      have b1 := hL.out.1 k hlt
      have b2 := hL.out.2 k hlt
      have hs : ((F k : Nat) : Int) + (9007199254740988 - ((G k : Nat) : Int)) = ((preL F G k : Nat) : Int) := by unfold preL; omega
      go_wp2_with fail
      refine Txt.wp_text (by kernel_rfl) (by kernel_rfl) ?_
      go_wp2_with fail
      refine ⟨rfl, by kernel_rfl, ?_⟩
      go_wp2_with fail
      go_roundg (5 - (k + 1))
      case measure => omega
      case rel => exact ⟨k + 1, by omega, by omega, by go_num, H1.out.drew⟩
    · obtain rfl : k = 5 := by omega
      have H2 := Lib.hid (H.out.same (mix_full 5 F (preL F G)))
      have c1 := Blk.eget H2.out.a 0 (by omega)
      have z1 := H2.out.a.frozen 0
      have b1 : preL F G 0 < 18446744073709551616 ∧ 72 ≤ preL F G 0 := by have := hL.out.1 0 (by omega); have := hL.out.2 0 (by omega); unfold preL; omega
      have hs : ((preL F G 0 : Nat) : Int) - 72 = ((subL F G 0 : Nat) : Int) := by unfold subL; rw [if_pos rfl]; omega
      have H3 := Lib.hid (show Two w g1 g2 g3 (subL F G) G (wr.setCell ⟨g1, 0, none⟩ (.int .u64 (subL F G 0 : Nat))) from by
        have hk : Kept [g1] wr (wr.setCell ⟨g1, 0, none⟩ (.int .u64 (subL F G 0 : Nat))) := (Kept.refl [g1] wr).setCell (.inl (by simp)) _
        have e : fam 5 (fun j => if j = 0 then subL F G 0 else preL F G j) = fam 5 (subL F G) := fam_ext 5 fun j _ => by
          by_cases h : j = 0
          · subst h; rfl
          · rw [if_neg h]; unfold subL; rw [if_neg h]
        have ha := H2.out.a.fset (v := fun z : Nat => Value.int .u64 (z : Int)) 0 (subL F G 0)
        rw [e] at ha
        exact ⟨ha, H2.out.b.kept hk (by simpa using Ne.symm N.out.n12), H2.out.r.kept hk (by simpa using Ne.symm N.out.n13), H2.out.k.then1 hk N.out.l1⟩)
      obtain ⟨b11, b12⟩ := b1
      go_wp2_with (first
        | (refine wpl_load_row structEl rfl (.tmp 2) rfl rfl H3.out.a rfl ?_)
        | (go_at_call 74; refine (hcar.out _).mono ?_; rintro e w6 ⟨rfl, k6⟩; have H4 := Lib.hid (H3.out.kept k6); clear k6)
        | (refine wpl_store_row structEl rfl (.tmp 4) (.tmp 29) rfl rfl rfl H4.out.r rfl rfl (one_el _) ?_; intro w8 b8 k8))
      exact ret_row structEl rfl rfl b8 rfl rfl ⟨rfl, H4.out.k.then1 k8 N.out.l3⟩
end Go.Proofs.Ytkflljjcgihaoaa

namespace Go.Proofs.Ytkflljjcgihaoaa
open Go.RowKit Go.Mem

theorem addL_val (F G : Nat → Nat) : fv (addL F G) = fv F + fv G := by
  unfold fv addL
  omega
theorem subL_val (F G : Nat → Nat) (_ : Lim F) (hG : Lim G) : fv (subL F G) + fv G = fv F + 4 * PP := by
  have g0 := hG 0 (by omega)
  have g1 := hG 1 (by omega)
  have g2 := hG 2 (by omega)
  have g3 := hG 3 (by omega)
  have g4 := hG 4 (by omega)
  unfold fv
  rw [show subL F G 0 = F 0 + (9007199254740988 - G 0) - 72 from rfl, show subL F G 1 = F 1 + (9007199254740988 - G 1) from rfl, show subL F G 2 = F 2 + (9007199254740988 - G 2) from rfl, show subL F G 3 = F 3 + (9007199254740988 - G 3) from rfl, show subL F G 4 = F 4 + (9007199254740988 - G 4) from rfl]
  unfold PP
  omega

/-- Limbs of a number: they stand for x. -/
structure Rep (F : Nat → Nat) (x : Nat) : Prop where
  lim : Lim F
  val : fv F % PP = x % PP
theorem Rep.add {F G : Nat → Nat} {x y : Nat} (h : Rep F x) (h2 : Rep G y) : Rep (carL (addL F G)) (x + y) := by
  refine ⟨carL_lim _ fun i hi => by have := h.lim i hi; have := h2.lim i hi; unfold addL; omega, ?_⟩
  rw [carL_mod, addL_val, Nat.add_mod, h.val, h2.val, ← Nat.add_mod]
theorem Rep.sub {F G : Nat → Nat} {x y z : Nat} (h : Rep F x) (h2 : Rep G y) (hz : (z + y) % PP = x % PP) : Rep (carL (subL F G)) z := by
  refine ⟨carL_lim _ fun i hi => by have := h.lim i hi; have := h.lim 0 (by omega); unfold subL preL; split <;> omega, ?_⟩
  rw [carL_mod]
  have e := subL_val F G h.lim h2.lim
  have e2 : (fv (subL F G) + y) % PP = (z + y) % PP := by
    have : (fv (subL F G) + fv G) % PP = fv F % PP := by rw [e, Nat.add_mul_mod_self_right]
    rw [Nat.add_mod, h2.val, ← Nat.add_mod] at this
    rw [this, h.val, hz]
  have hp := PP_pos
  have e3 : (fv (subL F G) + y + (PP - y % PP)) % PP = (z + y + (PP - y % PP)) % PP := by
    rw [Nat.add_mod, e2, ← Nat.add_mod]
  have hy := Nat.mod_lt y hp
  have hd := Nat.div_add_mod y PP
  have a1 : ∀ q, q + y + (PP - y % PP) = q + PP * (y / PP + 1) := fun q => by rw [Nat.mul_add]; omega
  rw [a1, a1, Nat.add_mul_mod_self_left, Nat.add_mul_mod_self_left] at e3
  exact e3

section
variable {P : Program} {w : World} {ops : Array Oper} {rest : List Oper} {o : Oper} {a : Act} {Q : Exit → Act → World → Prop} {t e : TypeId} {n : Nat}
/-- An array or a struct of two parts given. -/
theorem wpl_build2 (hgd : Region.wanted o (yielded ops a.tmps) = true) (i j : Nat) (x y : Operand) (ho : o.op = .build t #[(i, x), (j, y)]) {v u : Value} (hx : a.eval x = v) (hy : a.eval y = u) {cs : Array Value} (hb : P.built t [(i, v), (j, u)] = some cs) (h : wpList P ops Q rest (a.put o.dst (.agg cs)) w) : wpList P ops Q (o :: rest) a w := by
  have e : (#[(i, x), (j, y)].map fun (p : Nat × Operand) => (p.1, a.eval p.2)).toList = [(i, v), (j, u)] := by simp [hx, hy]
  refine wpl_wanted hgd fun _ hK => wp_build t #[(i, x), (j, y)] ho (by rw [e, hb]; rfl) (hK _ _ ?_)
  rw [e, hb]
  exact h
end
def smL (v i : Nat) : Nat := if i = 0 then v % 2251799813685248 else if i = 1 then v / 2251799813685248 else 0
theorem small_val (v : Nat) : fv (smL v) = v := by
  unfold fv
  rw [show smL v 0 = v % 2251799813685248 from rfl, show smL v 1 = v / 2251799813685248 from rfl, show smL v 2 = 0 from rfl, show smL v 3 = 0 from rfl, show smL v 4 = 0 from rfl]
  omega
theorem built_two (x y : Nat) : Try.prog.built 25 [(0, .int .u64 (x : Int)), (1, .int .u64 (y : Int))] = some #[.int .u64 (x : Int), .int .u64 (y : Int), .int .u64 0, .int .u64 0, .int .u64 0] := by kernel_rfl
theorem built_el (f : Nat → Nat) : Try.prog.built 27 [(0, el f)] = some (uv (fam 5 f)).toArray := by kernel_rfl
theorem small_el (v : Nat) : (uv (fam 5 (smL v))).toArray = #[.int .u64 ((v % 2251799813685248 : Nat) : Int), .int .u64 ((v / 2251799813685248 : Nat) : Int), .int .u64 0, .int .u64 0, .int .u64 0] := rfl
set_option maxRecDepth 100000 in
set_option maxHeartbeats 800000 in
theorem small_any (v : Nat) (w : World) (hv : v < 18446744073709551616) :
    Calls Try.prog 34 #[.int .u64 v] w fun e w' => e = .returned (el (smL v)) ∧ Kept [] w w' := by
  obtain ⟨p, hp⟩ : ∃ p, p = v % 2251799813685248 := ⟨_, rfl⟩
  obtain ⟨q, hq⟩ : ∃ q, q = v / 2251799813685248 := ⟨_, rfl⟩
  have hm : bits .and .u64 ((v : Nat) : Int) 2251799813685247 = ((p : Nat) : Int) := by rw [hp]; exact and51 v hv
  have hd : ((v : Nat) : Int) / 2251799813685248 = ((q : Nat) : Int) := by rw [hq]; omega
  have hb := built_two p q
  have he := small_el v
  rw [← hp, ← hq] at he
  rw [← he] at hb
  have hb2 := Lib.hid hb
  clear hb he hp hq hv
  go_enter Try.func34, Try.ntmps34
  go_wp2_with (first
    | ((with_reducible refine wpl_new (o := ⟨some 2, _, _, _, _, _⟩) rfl rfl zeroEl ?_); intro g1 w1 m1)
    | (refine wpl_build2 rfl 0 1 (.tmp 4) (.tmp 6) rfl rfl rfl hb2.out ?_)
    | (refine wpl_build1 rfl 0 (.tmp 7) rfl rfl (built_el _) ?_)
    | (refine wpl_store_row structEl rfl (.tmp 2) (.tmp 8) rfl rfl rfl m1.blk rfl rfl (one_el _) ?_; intro w8 b8 k8))
  exact ret_row structEl rfl rfl b8 rfl rfl ⟨rfl, m1.kept.then1 k8 m1.le⟩
end Go.Proofs.Ytkflljjcgihaoaa

namespace Go.Proofs.Ytkflljjcgihaoaa
open Go.RowKit Go.Mem

/-- Word i of x. -/
def wrd (x i : Nat) : Nat := x / 2 ^ (64 * i) % 18446744073709551616
theorem wrd_lt (x i : Nat) : wrd x i < 18446744073709551616 := Nat.mod_lt _ (by decide)
/-- What bytes come to. -/
def leV : List UInt8 → Nat
  | [] => 0
  | a :: l => a.toNat + 256 * leV l
theorem leV_lt : ∀ l : List UInt8, leV l < 256 ^ l.length
  | [] => by simp [leV]
  | a :: l => by
    have h := leV_lt l
    have ha := a.toNat_lt
    simp only [leV, List.length_cons, Nat.pow_succ]
    omega
theorem leV_snoc : ∀ (l : List UInt8) (b : UInt8), leV (l ++ [b]) = leV l + b.toNat * 256 ^ l.length
  | [], b => by simp [leV]
  | a :: l, b => by
    simp only [List.cons_append, leV, leV_snoc l b, List.length_cons, Nat.pow_succ]
    rw [Nat.mul_add, Nat.add_assoc]
    congr 2
    rw [Nat.mul_comm 256, Nat.mul_assoc]
theorem leV_take (l : List UInt8) (k : Nat) (h : k < l.length) : leV (l.take (k + 1)) = leV (l.take k) + l[k].toNat * 2 ^ (8 * k) := by
  rw [List.take_succ_eq_append_getElem h, leV_snoc, List.length_take, Nat.min_eq_left (by omega), show (256 : Nat) = 2 ^ 8 from rfl, ← Nat.pow_mul]
theorem leV_take_lt (l : List UInt8) (k : Nat) (h : k ≤ l.length) : leV (l.take k) < 2 ^ (8 * k) := by
  have := leV_lt (l.take k)
  rwa [List.length_take, Nat.min_eq_left h, show (256 : Nat) = 2 ^ 8 from rfl, ← Nat.pow_mul] at this
/-- The first n bytes of x. -/
def le (x n : Nat) : List UInt8 := (List.range n).map fun i => UInt8.ofNat (x / 2 ^ (8 * i) % 256)
theorem le_len (x n : Nat) : (le x n).length = n := by simp [le]
theorem le_get (x n i : Nat) (h : i < n) : (le x n)[i]'(by rw [le_len]; exact h) = UInt8.ofNat (x / 2 ^ (8 * i) % 256) := by simp [le]
theorem leV_le : ∀ (n x : Nat), leV (le x n) = x % 2 ^ (8 * n)
  | 0, x => by simp [le, leV, Nat.mod_one]
  | n + 1, x => by
    have h := leV_le n (x / 256)
    have e : le x (n + 1) = UInt8.ofNat (x % 256) :: le (x / 256) n := by
      unfold le
      rw [List.range_succ_eq_map, List.map_cons, List.map_map]
      congr 1
      · simp
      apply List.map_congr_left
      intro i _
      simp only [Function.comp_apply]
      rw [show 8 * (i.succ) = 8 + 8 * i from by omega, Nat.pow_add, ← Nat.div_div_eq_div_mul]
    have hm : (UInt8.ofNat (x % 256)).toNat = x % 256 := by rw [UInt8.toNat_ofNat']; omega
    rw [e, leV, h, hm, show 8 * (n + 1) = 8 + 8 * n from by omega, Nat.pow_add]
    show _ = x % (256 * _)
    rw [Nat.mod_mul]
theorem le_leV : ∀ l : List UInt8, le (leV l) l.length = l
  | [] => rfl
  | a :: l => by
    have h := le_leV l
    have ha := a.toNat_lt
    unfold le
    rw [List.length_cons, List.range_succ_eq_map, List.map_cons, List.map_map]
    congr 1
    · have : leV (a :: l) / 2 ^ (8 * 0) % 256 = a.toNat := by simp only [leV, Nat.mul_zero, Nat.pow_zero, Nat.div_one]; omega
      rw [this]; simp
    · conv => rhs; rw [← h]
      unfold le
      apply List.map_congr_left
      intro i _
      simp only [Function.comp_apply]
      rw [show 8 * (i.succ) = 8 + 8 * i from by omega, Nat.pow_add, ← Nat.div_div_eq_div_mul]
      congr 3
      show (a.toNat + 256 * leV l) / 256 = leV l
      omega
theorem le_inj {x y n : Nat} (hx : x < 2 ^ (8 * n)) (hy : y < 2 ^ (8 * n)) : (le x n == le y n) = decide (x = y) := by
  rw [Bool.eq_iff_iff, beq_iff_eq, decide_eq_true_iff]
  constructor
  · intro h
    have := congrArg leV h
    rwa [leV_le, leV_le, Nat.mod_eq_of_lt hx, Nat.mod_eq_of_lt hy] at this
  · rintro rfl; rfl

theorem byte_word (x i : Nat) : wrd x (i / 8) / 2 ^ (8 * (i % 8)) % 256 = x / 2 ^ (8 * i) % 256 := by
  unfold wrd
  have e : 8 * i = 64 * (i / 8) + 8 * (i % 8) := by omega
  rw [e, Nat.pow_add, ← Nat.div_div_eq_div_mul]
  generalize x / 2 ^ (64 * (i / 8)) = U
  have hr : i % 8 = 0 ∨ i % 8 = 1 ∨ i % 8 = 2 ∨ i % 8 = 3 ∨ i % 8 = 4 ∨ i % 8 = 5 ∨ i % 8 = 6 ∨ i % 8 = 7 := by omega
  rcases hr with h | h | h | h | h | h | h | h <;> rw [h] <;> simp only [Nat.reduceMul, Nat.reducePow] <;> omega

theorem byte_of (x i : Nat) (h : i < 32) : (((wrd x (i / 8) : Nat) : Int) / 2 ^ (8 * (i % 8)) % 256) = (((le x 32)[i]'(by rw [le_len]; exact h)).toNat : Int) := by
  rw [le_get x 32 i h, UInt8.toNat_ofNat', ← byte_word]
  have : ((wrd x (i / 8) : Nat) : Int) / 2 ^ (8 * (i % 8)) = ((wrd x (i / 8) / 2 ^ (8 * (i % 8)) : Nat) : Int) := by simp
  rw [this]
  omega

theorem leV_lt2 (l : List UInt8) : leV l < 2 ^ (8 * l.length) := by
  have := leV_lt l
  rwa [show (256 : Nat) = 2 ^ 8 from rfl, ← Nat.pow_mul] at this
end Go.Proofs.Ytkflljjcgihaoaa

namespace Go.Proofs.Ytkflljjcgihaoaa
open Go.RowKit Go.Mem

/-- Is it p or more? -/
def qq (A : Nat → Nat) : Nat → Nat
  | 0 => (A 0 + 19) / 2251799813685248
  | k + 1 => (A (k + 1) + qq A k) / 2251799813685248
/-- Less p, if it is p or more. -/
def lessL (A : Nat → Nat) (i : Nat) : Nat := if i = 0 then A 0 + 19 * qq A 4 else A i
/-- Carried on. -/
def tc (B : Nat → Nat) : Nat → Nat
  | 0 => B 0
  | k + 1 => B (k + 1) + tc B k / 2251799813685248
/-- While it is carried on. -/
def nm (B : Nat → Nat) (k j : Nat) : Nat := if j < k then tc B j % 2251799813685248 else if j = k then tc B k else B j
/-- The limbs at the end. -/
def endL (A : Nat → Nat) (j : Nat) : Nat := tc (lessL A) j % 2251799813685248

def T255 : Nat := 57896044618658097711785492504343953926634992332820282019728792003956564819968
theorem qq_val (A : Nat → Nat) : qq A 4 = (fv A + 19) / T255 := by
  unfold fv T255
  rw [show qq A 4 = (A 4 + (A 3 + (A 2 + (A 1 + (A 0 + 19) / 2251799813685248) / 2251799813685248) / 2251799813685248) / 2251799813685248) / 2251799813685248 from rfl]
  omega
theorem endL_val (A : Nat → Nat) : fv (endL A) = (fv A + 19 * qq A 4) % T255 := by
  have h0 : tc (lessL A) 0 = A 0 + 19 * qq A 4 := rfl
  have h1 : tc (lessL A) 1 = A 1 + tc (lessL A) 0 / 2251799813685248 := rfl
  have h2 : tc (lessL A) 2 = A 2 + tc (lessL A) 1 / 2251799813685248 := rfl
  have h3 : tc (lessL A) 3 = A 3 + tc (lessL A) 2 / 2251799813685248 := rfl
  have h4 : tc (lessL A) 4 = A 4 + tc (lessL A) 3 / 2251799813685248 := rfl
  unfold fv T255 endL
  generalize tc (lessL A) 0 = t0 at *
  generalize tc (lessL A) 1 = t1 at *
  generalize tc (lessL A) 2 = t2 at *
  generalize tc (lessL A) 3 = t3 at *
  generalize tc (lessL A) 4 = t4 at *
  omega
/-- What two carries leave. -/
structure Low2 (A : Nat → Nat) : Prop where
  a0 : A 0 < 2251799813685248 + 19
  ai : ∀ i, 1 ≤ i → i < 5 → A i ≤ 2251799813685248
theorem low2 (F : Nat → Nat) (h : Lim F) : Low2 (carL (carL F)) := by
  have k1 : ∀ i, i < 5 → carL F i < 2251799813685248 + 19 := by
    intro i hi
    have h4 := h 4 (by omega)
    have hi2 := h i hi
    have hi3 := h (i - 1) (by omega)
    unfold carL loL hiL
    split <;> omega
  have h4 := k1 4 (by omega)
  have h0 := k1 0 (by omega)
  generalize carL F = G at *
  constructor
  · rw [show carL G 0 = G 0 % 2251799813685248 + 19 * (G 4 / 2251799813685248) from rfl]
    omega
  · intro i h1 hi
    have hi2 := k1 i hi
    have hi3 := k1 (i - 1) (by omega)
    unfold carL loL hiL
    rw [if_neg (by omega)]
    omega
theorem end_mod (F : Nat → Nat) (h : Lim F) : fv (endL (carL (carL F))) = fv F % PP := by
  have hl := low2 F h
  have e := endL_val (carL (carL F))
  rw [qq_val] at e
  have hm : fv (carL (carL F)) % PP = fv F % PP := by rw [carL_mod, carL_mod]
  have hb : fv (carL (carL F)) < 2 * PP := by
    have := hl.a0
    have a1 := hl.ai 1 (by omega) (by omega)
    have a2 := hl.ai 2 (by omega) (by omega)
    have a3 := hl.ai 3 (by omega) (by omega)
    have a4 := hl.ai 4 (by omega) (by omega)
    unfold fv PP
    omega
  rw [e, ← hm]
  clear e hm hl h
  generalize fv (carL (carL F)) = v at *
  unfold PP at *
  unfold T255
  by_cases hv : v < 57896044618658097711785492504343953926634992332820282019728792003956564819949
  · have hq : (v + 19) / 57896044618658097711785492504343953926634992332820282019728792003956564819968 = 0 := by omega
    rw [hq, Nat.mod_eq_of_lt hv]
    omega
  · have hq : (v + 19) / 57896044618658097711785492504343953926634992332820282019728792003956564819968 = 1 := by omega
    rw [hq]
    omega
theorem endL_lt (A : Nat → Nat) (i : Nat) : endL A i < 2251799813685248 := Nat.mod_lt _ (by decide)
/-- The words. -/
theorem end_words (R : Nat → Nat) (h : ∀ i, R i < 2251799813685248) :
    wrd (fv R) 0 = (R 0 + R 1 * 2251799813685248) % 18446744073709551616 ∧ wrd (fv R) 1 = R 1 / 8192 + R 2 * 274877906944 % 18446744073709551616 ∧
    wrd (fv R) 2 = R 2 / 67108864 + R 3 * 33554432 % 18446744073709551616 ∧ wrd (fv R) 3 = R 3 / 549755813888 + R 4 * 4096 := by
  have h0 := h 0
  have h1 := h 1
  have h2 := h 2
  have h3 := h 3
  have h4 := h 4
  unfold wrd fv
  rw [show 2 ^ (64 * 0) = 1 from rfl, show 2 ^ (64 * 1) = 18446744073709551616 from rfl, show 2 ^ (64 * 2) = 340282366920938463463374607431768211456 from rfl, show 2 ^ (64 * 3) = 6277101735386680763835789423207666416102355444464034512896 from rfl]
  generalize R 0 = r0 at *
  generalize R 1 = r1 at *
  generalize R 2 = r2 at *
  generalize R 3 = r3 at *
  generalize R 4 = r4 at *
  refine ⟨?_, ?_, ?_, ?_⟩ <;> omega
end Go.Proofs.Ytkflljjcgihaoaa

namespace Go.Proofs.Ytkflljjcgihaoaa
open Go.RowKit Go.Mem

theorem or_up (a c s P : Nat) (hP : P = 2 ^ s) (ha : a < P) (h1 : a < 18446744073709551616) (hc : P * c < 18446744073709551616) : bits .or .u64 (a : Int) ((P * c : Nat) : Int) = ((a + P * c : Nat) : Int) := by
  rw [bits_or_u64_nat a (P * c) h1 hc]
  subst hP
  rw [Nat.or_comm, ← Nat.two_pow_add_eq_or_of_lt ha, Nat.add_comm]
theorem wrap_nat (x : Nat) : IntKind.u64.wrap (x : Int) = ((x % 18446744073709551616 : Nat) : Int) := by
  simp [IntKind.wrap, IntKind.bits, IntKind.signed]

theorem word0 (R : Nat → Nat) (h : ∀ i, R i < 2251799813685248) : bits .or .u64 ((R 0 : Nat) : Int) (IntKind.u64.wrap (((R 1 : Nat) : Int) * 2251799813685248)) = ((wrd (fv R) 0 : Nat) : Int) := by
  have h0 := h 0
  rw [(end_words R h).1, show (((R 1 : Nat) : Int) * 2251799813685248) = ((R 1 * 2251799813685248 : Nat) : Int) from by omega, wrap_nat,
    show R 1 * 2251799813685248 % 18446744073709551616 = 2251799813685248 * (R 1 % 8192) from by omega, or_up (R 0) (R 1 % 8192) 51 _ rfl h0 (by omega) (by omega)]
  omega
theorem word1 (R : Nat → Nat) (h : ∀ i, R i < 2251799813685248) : bits .or .u64 (((R 1 : Nat) : Int) / 8192) (IntKind.u64.wrap (((R 2 : Nat) : Int) * 274877906944)) = ((wrd (fv R) 1 : Nat) : Int) := by
  have h0 := h 1
  rw [(end_words R h).2.1, show (((R 2 : Nat) : Int) * 274877906944) = ((R 2 * 274877906944 : Nat) : Int) from by omega, wrap_nat, show ((R 1 : Nat) : Int) / 8192 = ((R 1 / 8192 : Nat) : Int) from by omega,
    show R 2 * 274877906944 % 18446744073709551616 = 274877906944 * (R 2 % 67108864) from by omega, or_up (R 1 / 8192) (R 2 % 67108864) 38 _ rfl (by omega) (by omega) (by omega)]
theorem word2 (R : Nat → Nat) (h : ∀ i, R i < 2251799813685248) : bits .or .u64 (((R 2 : Nat) : Int) / 67108864) (IntKind.u64.wrap (((R 3 : Nat) : Int) * 33554432)) = ((wrd (fv R) 2 : Nat) : Int) := by
  have h0 := h 2
  rw [(end_words R h).2.2.1, show (((R 3 : Nat) : Int) * 33554432) = ((R 3 * 33554432 : Nat) : Int) from by omega, wrap_nat, show ((R 2 : Nat) : Int) / 67108864 = ((R 2 / 67108864 : Nat) : Int) from by omega,
    show R 3 * 33554432 % 18446744073709551616 = 33554432 * (R 3 % 549755813888) from by omega, or_up (R 2 / 67108864) (R 3 % 549755813888) 25 _ rfl (by omega) (by omega) (by omega)]
theorem word3 (R : Nat → Nat) (h : ∀ i, R i < 2251799813685248) : bits .or .u64 (((R 3 : Nat) : Int) / 549755813888) (((R 4 : Nat) : Int) * 4096) = ((wrd (fv R) 3 : Nat) : Int) := by
  have h0 := h 3
  have h4 := h 4
  rw [(end_words R h).2.2.2, show (((R 4 : Nat) : Int) * 4096) = ((4096 * R 4 : Nat) : Int) from by omega, show ((R 3 : Nat) : Int) / 549755813888 = ((R 3 / 549755813888 : Nat) : Int) from by omega,
    or_up (R 3 / 549755813888) (R 4) 12 _ rfl (by omega) (by omega) (by omega)]
  omega
end Go.Proofs.Ytkflljjcgihaoaa

namespace Go.Proofs.Ytkflljjcgihaoaa
open Go.RowKit Go.Mem

theorem arrB : ArrT Try.prog 22 5 32 := ⟨Try.underlying22, by kernel_rfl⟩
theorem zeroB : (Try.prog.info? 22).map (·.zero) = some (some (ab (noughts 32))) := by kernel_rfl
theorem arrW : ArrT Try.prog 61 24 4 := ⟨Try.underlying61, by kernel_rfl⟩
theorem zeroW : (Try.prog.info? 61).map (·.zero) = some (some (.agg #[.int .u64 0, .int .u64 0, .int .u64 0, .int .u64 0])) := by kernel_rfl

/-- What lies in memory. -/
structure Ha (w0 : World) (g1 g2 : Nat) (f : Nat → Nat) (u : World) : Prop where
  a : Blk u g1 27 (uv (fam 5 f)).toArray
  r : Blk u g2 22 (bv (noughts 32)).toArray
  k : Kept [] w0 u
structure Far2 (w0 : World) (g1 g2 : Nat) : Prop where
  n12 : g1 ≠ g2
  l1 : w0.heap.size ≤ g1
  l2 : w0.heap.size ≤ g2
theorem Ha.kept {w0 : World} {g1 g2 : Nat} {f : Nat → Nat} {u u' : World} (H : Ha w0 g1 g2 f u) (hk : Kept [] u u') : Ha w0 g1 g2 f u' := ⟨H.a.kept hk (by simp), H.r.kept hk (by simp), H.k.then0 hk⟩
theorem Ha.set_ {w0 : World} {g1 g2 : Nat} {f f' : Nat → Nat} {u : World} (H : Ha w0 g1 g2 f u) (n : Far2 w0 g1 g2) (i x : Nat) (e : fam 5 (fun j => if j = i then x else f j) = fam 5 f') : Ha w0 g1 g2 f' (u.setCell ⟨g1, i, none⟩ (.int .u64 (x : Nat))) :=
  have hk : Kept [g1] u (u.setCell ⟨g1, i, none⟩ (.int .u64 (x : Nat))) := (Kept.refl [g1] u).setCell (.inl (by simp)) _
  ⟨e ▸ H.a.fset (v := fun z : Nat => Value.int .u64 (z : Int)) i x, H.r.kept hk (by simpa using Ne.symm n.n12), H.k.then1 hk n.l1⟩
theorem Ha.same {w0 : World} {g1 g2 : Nat} {f f' : Nat → Nat} {u : World} (H : Ha w0 g1 g2 f u) (e : fam 5 f = fam 5 f') : Ha w0 g1 g2 f' u := ⟨e ▸ H.a, H.r, H.k⟩
theorem qq_le {A : Nat → Nat} (h : Low2 A) : ∀ k, k < 5 → qq A k ≤ 1
  | 0, _ => by have := h.a0; show (A 0 + 19) / 2251799813685248 ≤ 1; omega
  | k + 1, hk => by have := qq_le h k (by omega); have := h.ai (k + 1) (by omega) hk; show (A (k + 1) + qq A k) / 2251799813685248 ≤ 1; omega
theorem low_lt {A : Nat → Nat} (h : Low2 A) (i : Nat) (hi : i < 5) : A i < 2251799813685248 + 19 := by
  rcases Nat.eq_zero_or_pos i with rfl | h1
  · exact h.a0
  · have := h.ai i h1 hi; omega

theorem blk_new_at (w : World) (t : TypeId) (cs : Array Value) (n : Nat) (h : n = w.heap.size) : Blk (w.alloc (.cells cs t)) n t cs := by subst h; exact Blk.new w t cs
theorem Ha.drew {w0 : World} {g1 g2 : Nat} {f : Nat → Nat} {u : World} (H : Ha w0 g1 g2 f u) : Ha w0 g1 g2 f u.drew := ⟨H.a, H.r, H.k.drew⟩
theorem tc_lt {A : Nat → Nat} (h : Low2 A) : ∀ k, k < 5 → tc (lessL A) k < 2251799813685248 + 64
  | 0, _ => by have := h.a0; have := qq_le h 4 (by omega); show A 0 + 19 * qq A 4 < _; omega
  | k + 1, hk => by
    have := tc_lt h k (by omega)
    have := h.ai (k + 1) (by omega) hk
    show A (k + 1) + tc (lessL A) k / 2251799813685248 < _
    omega
theorem nm_step (B : Nat → Nat) (k : Nat) : fam 5 (fun j => if j = k then tc B k % 2251799813685248 else if j = k + 1 then tc B (k + 1) else nm B k j) = fam 5 (nm B (k + 1)) := fam_ext 5 fun j _ => by
  unfold nm
  by_cases h1 : j = k
  · rw [if_pos h1, if_pos (by omega), h1]
  · rw [if_neg h1]
    by_cases h2 : j = k + 1
    · rw [if_pos h2, if_neg (by omega), if_pos h2]
    · rw [if_neg h2]
      by_cases h3 : j < k
      · rw [if_pos h3, if_pos (by omega)]
      · rw [if_neg h3, if_neg h1, if_neg (by omega), if_neg h2]
theorem nm_zero (B : Nat → Nat) : fam 5 B = fam 5 (nm B 0) := fam_ext 5 fun j _ => by
  unfold nm
  rw [if_neg (by omega)]
  by_cases h : j = 0
  · rw [if_pos h, h]; rfl
  · rw [if_neg h]
theorem nm_end (A : Nat → Nat) : fam 5 (fun j => if j = 4 then tc (lessL A) 4 % 2251799813685248 else nm (lessL A) 4 j) = fam 5 (endL A) := fam_ext 5 fun j hj => by
  unfold endL nm
  by_cases h : j = 4
  · rw [if_pos h, h]
  · rw [if_neg h, if_pos (by omega)]
theorem less_fam (A : Nat → Nat) : fam 5 (fun j => if j = 0 then lessL A 0 else A j) = fam 5 (lessL A) := fam_ext 5 fun j _ => by
  by_cases h : j = 0
  · subst h; rfl
  · rw [if_neg h]; unfold lessL; rw [if_neg h]

set_option maxRecDepth 100000 in
set_option maxHeartbeats 3200000 in
theorem fhash_any (F : Nat → Nat) (w : World) (hF : Lim F) :
    Calls Try.prog 39 #[el F] w fun e w' => e = .returned (ab (le (fv F % PP) 32)) ∧ Kept [] w w' := by
  have hc1 := Lib.hid (fun W => carried_any F W (fun i hi => by have := hF i hi; omega))
  have hc2 := Lib.hid (fun W => carried_any (carL F) W (fun i hi => by have := carL_lim F (fun i hi => by have := hF i hi; omega) i hi; omega))
  have hlow := low2 F hF
  have hend := end_mod F hF
  obtain ⟨X, hX⟩ : ∃ X, X = fv F % PP := ⟨_, rfl⟩
  rw [← hX] at hend ⊢
  obtain ⟨A, hA⟩ : ∃ A, A = carL (carL F) := ⟨_, rfl⟩
  rw [← hA] at hc2 hlow hend
  have L := Lib.hid hlow
  have E := Lib.hid hend
  clear hF hX hA hlow hend
  go_enter Try.func39, Try.ntmps39
  go_wp2_with (first
    | ((with_reducible refine wpl_box (o := ⟨some 1, _, _, _, _, _⟩) (v := el F) rfl (.tmp 0) rfl rfl ?_); intro g1 w1 m1)
    | ((with_reducible refine wpl_new (o := ⟨some 2, _, _, _, _, _⟩) rfl rfl zeroB ?_); intro g2 w2 m2; have N := Lib.hid (show Far2 w g1 g2 from ⟨m2.ne m1.blk.lt, m1.le, Nat.le_trans m1.kept.size m2.le⟩); have H := Lib.hid (show Ha w g1 g2 F w2 from ⟨m1.blk.kept m2.kept (by simp), m2.blk, m1.kept.then0 m2.kept⟩); clear m1 m2)
    | (refine wpl_load_row structEl rfl (.tmp 1) rfl rfl H.out.a rfl ?_)
    | (go_at_call 74; (with_reducible refine (hc1.out _).mono ?_); rintro e w3 ⟨rfl, k3⟩; have H := Lib.hid (H.out.kept k3); clear k3)
    | (go_at_call 74; (with_reducible refine (hc2.out _).mono ?_); rintro e w4 ⟨rfl, k4⟩; have H := Lib.hid (H.out.kept k4); clear k4)
    | (refine wpl_store_row structEl rfl (.tmp 1) (.tmp 11) rfl rfl rfl H.out.a rfl rfl (one_el _) ?_; intro w5 b5 k5; have H1 := Lib.hid (show Ha w g1 g2 A w5 from ⟨b5, H.out.r.kept k5 (by simpa using Ne.symm N.out.n12), H.out.k.then1 k5 N.out.l1⟩); have c1 := Blk.eget H1.out.a 0 (by omega); have b0 := L.out.a0; have hq0 : (((A 0 : Nat) : Int) + 19) / 2251799813685248 = ((qq A 0 : Nat) : Int) := by (show _ = (((A 0 + 19) / 2251799813685248 : Nat) : Int)); omega))
  clear c1 b5 k5 hq0 b0
  go_loopg [4, 3] 4 (fun f i q wk => ∃ k : Nat, k ≤ 4 ∧ f + k = 4 ∧ i = .int .i64 ((k : Int) + 1) ∧ q = .int .u64 (qq A k : Nat) ∧ Ha w g1 g2 A wk)
  case atStart => exact ⟨0, by omega, rfl, rfl, rfl, H1.out⟩
  case round =>
    obtain ⟨k, hk, hf, rfl, rfl, hs⟩ := hrel
    have H := Lib.hid hs
    clear hs
    by_cases hlt : k < 4
    · have c1 := Blk.eget H.out.a (k + 1) (by omega)
      have b1 := L.out.ai (k + 1) (by omega) (by omega)
      have b2 := qq_le L.out k (by omega)
      have hq : (((A (k + 1) : Nat) : Int) + ((qq A k : Nat) : Int)) / 2251799813685248 = ((qq A (k + 1) : Nat) : Int) := by (show _ = (((A (k + 1) + qq A k) / 2251799813685248 : Nat) : Int)); omega
      go_wp2_with fail
      go_roundg (4 - (k + 1))
      case measure => omega
      case rel => exact ⟨k + 1, by omega, by omega, by go_num, rfl, H.out⟩
    · obtain rfl : k = 4 := by omega
      have c1 := Blk.eget H.out.a 0 (by omega)
      have z1 := H.out.a.frozen 0
      have b0 := L.out.a0
      have b4 := qq_le L.out 4 (by omega)
      have hl : ((A 0 : Nat) : Int) + 19 * ((qq A 4 : Nat) : Int) = ((lessL A 0 : Nat) : Int) := by unfold lessL; rw [if_pos rfl]; omega
      have H1 := Lib.hid ((H.out.set_ N.out 0 (lessL A 0) (less_fam A)).same (nm_zero (lessL A)))
      go_wp2_with fail
      obtain ⟨wq, hwq⟩ : ∃ wq : World, wq = wr.setCell ⟨g1, 0, none⟩ (.int .u64 (lessL A 0 : Nat)) := ⟨_, rfl⟩
      rw [← hwq] at H1 ⊢
      clear hwq c1 z1 b0 b4 hl H
      go_loopg [36] 4 (fun f i wk => ∃ k : Nat, k ≤ 4 ∧ f + k = 4 ∧ i = .int .i64 k ∧ Ha w g1 g2 (nm (lessL A) k) wk)
      case atStart => exact ⟨0, by omega, rfl, rfl, H1.out⟩
      case round =>
        obtain ⟨k, hk, hf, rfl, hs⟩ := hrel
        have H := Lib.hid hs
        clear hs
        by_cases hlt : k < 4
        · have H2 := Lib.hid (H.out.set_ N.out (k + 1) (tc (lessL A) (k + 1)) rfl)
          have H3 := Lib.hid (H2.out.set_ N.out k (tc (lessL A) k % 2251799813685248) (nm_step (lessL A) k))
          have c1 := Blk.eget H.out.a (k + 1) (by omega)
          rw [show nm (lessL A) k (k + 1) = A (k + 1) from by unfold nm lessL; rw [if_neg (by omega), if_neg (by omega), if_neg (by omega)]] at c1
          have c2 := Blk.eget H.out.a k (by omega)
          rw [show nm (lessL A) k k = tc (lessL A) k from by unfold nm; rw [if_neg (by omega), if_pos rfl]] at c2
          have c3 := Blk.eget H2.out.a k (by omega)
          rw [if_neg (by omega), show nm (lessL A) k k = tc (lessL A) k from by unfold nm; rw [if_neg (by omega), if_pos rfl]] at c3
          have z1 := H.out.a.frozen (k + 1)
          have z2 := H2.out.a.frozen k
          have b1 := L.out.ai (k + 1) (by omega) (by omega)
          have b2 := tc_lt L.out k (by omega)
          obtain ⟨p, hp⟩ : ∃ p, p = tc (lessL A) k % 2251799813685248 := ⟨_, rfl⟩
          have ha : bits .and .u64 ((tc (lessL A) k : Nat) : Int) 2251799813685247 = ((p : Nat) : Int) := by rw [hp]; exact and51 _ (by omega)
          rw [← hp] at H3
          have hq : ((A (k + 1) : Nat) : Int) + ((tc (lessL A) k : Nat) : Int) / 2251799813685248 = ((tc (lessL A) (k + 1) : Nat) : Int) := by (show _ = ((A (k + 1) + tc (lessL A) k / 2251799813685248 : Nat) : Int)); omega
          clear hp
          go_wp2_with fail
          refine Txt.wp_text (by kernel_rfl) (by kernel_rfl) ?_
          go_wp2_with fail
          refine ⟨rfl, by kernel_rfl, ?_⟩
          go_wp2_with fail
          go_roundg (4 - (k + 1))
          case measure => omega
          case rel => exact ⟨k + 1, by omega, by omega, by go_num, H3.out.drew⟩
        · obtain rfl : k = 4 := by omega
          have H2 := Lib.hid (H.out.set_ N.out 4 (tc (lessL A) 4 % 2251799813685248) (nm_end A))
          have c1 := Blk.eget H.out.a 4 (by omega)
          rw [show nm (lessL A) 4 4 = tc (lessL A) 4 from rfl] at c1
          have z1 := H.out.a.frozen 4
          have b2 := tc_lt L.out 4 (by omega)
          have ha : bits .and .u64 ((tc (lessL A) 4 : Nat) : Int) 2251799813685247 = ((endL A 4 : Nat) : Int) := and51 _ (by omega)
          have e4 : tc (lessL A) 4 % 2251799813685248 = endL A 4 := rfl
          rw [e4] at H2
          clear e4
          have d0 := Blk.eget H2.out.a 0 (by omega)
          have d1 := Blk.eget H2.out.a 1 (by omega)
          have d2 := Blk.eget H2.out.a 2 (by omega)
          have d3 := Blk.eget H2.out.a 3 (by omega)
          have d4 := Blk.eget H2.out.a 4 (by omega)
          have r0 := endL_lt A 0
          have r1 := endL_lt A 1
          have r2 := endL_lt A 2
          have r3 := endL_lt A 3
          have r4 := endL_lt A 4
          have q0 := word0 (endL A) (endL_lt A)
          have q1 := word1 (endL A) (endL_lt A)
          have q2 := word2 (endL A) (endL_lt A)
          have q3 := word3 (endL A) (endL_lt A)
          rw [E.out] at q0 q1 q2 q3
          have hsz : (wr.setCell ⟨g1, 4, none⟩ (.int .u64 (endL A 4 : Nat))).heap.size = wr.heap.size := by simp
          have N7 := Lib.hid (show wr.heap.size ≠ wr.heap.size + 1 ∧ g2 ≠ wr.heap.size + 1 ∧ w.heap.size ≤ wr.heap.size + 1 from
            ⟨by omega, by have := H2.out.r.lt; omega, by have := H2.out.k.size; omega⟩)
          have N71 := Lib.hid (show g1 ≠ wr.heap.size + 1 from by have := H2.out.a.lt; omega)
          have H3 := Lib.hid (fun (o1 o2 : Obj) => (show Ha w g1 g2 (endL A) (((wr.setCell ⟨g1, 4, none⟩ (.int .u64 (endL A 4 : Nat))).alloc o1).alloc o2) from ⟨(H2.out.a.alloc _).alloc _, (H2.out.r.alloc _).alloc _, (H2.out.k.alloc _).alloc _⟩))
          have B6 := Lib.hid (fun (o2 : Obj) => (blk_new_at (wr.setCell ⟨g1, 4, none⟩ (.int .u64 (endL A 4 : Nat))) 61 (uv (fam 4 (wrd X))).toArray wr.heap.size hsz.symm).alloc o2)
          have B7 := Lib.hid (fun (o1 : Obj) => blk_new_at ((wr.setCell ⟨g1, 4, none⟩ (.int .u64 (endL A 4 : Nat))).alloc o1) 22 (bv (noughts 32)).toArray (wr.heap.size + 1) (by simp))
          clear hsz
          go_wp2_with fail
          obtain ⟨wz, hwz⟩ : ∃ wz : World, wz = wr := ⟨_, rfl⟩
          subst hwz
          go_loopg [102] 32 (fun f i wk => ∃ k : Nat, k ≤ 32 ∧ f + k = 32 ∧ i = .int .i64 k ∧ Blk wk (wz.heap.size + 1) 22 (bv (over (noughts 32) 0 ((le X 32).take k))).toArray ∧ Blk wk wz.heap.size 61 (uv (fam 4 (wrd X))).toArray ∧ Ha w g1 g2 (endL A) wk)
          case atStart => exact ⟨0, Nat.zero_le _, rfl, rfl, B7.out _, B6.out _, H3.out _ _⟩
          case round =>
            obtain ⟨k, hk, hf, rfl, hb, hw6, hs⟩ := hrel
            have H := Lib.hid (And.intro hw6 hs)
            clear hw6 hs
            by_cases hlt : k < 32
            · have c1 := Blk.eget H.out.1 (k / 8) (by omega)
              have hfz := hb.frozen k
              have c3 := hb.bget k (by rw [over_len _ _ _ (by simp [le_len]; omega)]; simpa using hlt)
              have hby := byte_of X k hlt
              have hst := hb.set_ k (byteV ((le X 32)[k]'(by rw [le_len]; exact hlt)))
              rw [over_stepB (noughts 32) (le X 32) k (by rw [le_len]; exact hlt) (by simp [le_len])] at hst
              have hst2 := Lib.hid hst
              have kk := (Kept.refl [wz.heap.size + 1] wr).setCell (p := ⟨wz.heap.size + 1, k, none⟩) (.inl (by simp)) (byteV ((le X 32)[k]'(by rw [le_len]; exact hlt)))
              have hk2 := Lib.hid (And.intro (H.out.1.kept kk (by simp)) (show Ha w g1 g2 (endL A) _ from ⟨H.out.2.a.kept kk (by simpa using N71.out), H.out.2.r.kept kk (by simpa using N7.out.2.1), H.out.2.k.then1 kk N7.out.2.2⟩))
              unfold byteV at hst2 hk2
              clear hst hb kk
              go_wp2_with fail
              go_roundg (32 - (k + 1))
              case measure => omega
              case rel => exact ⟨k + 1, by omega, by omega, by go_num, hst2.out, hk2.out.1, hk2.out.2⟩
            · obtain rfl : k = 32 := by omega
              have hb2 := Lib.hid hb
              clear hb
              rw [List.take_of_length_le (by rw [le_len]; exact Nat.le_refl _), over_all _ _ (by rw [le_len]; rfl)] at hb2
              go_wp2_with (first
                | (refine wpl_load_arr arrB rfl (.tmp 7) rfl rfl hb2.out (by simp [le_len]) ?_)
                | (refine wpl_store_arr arrB rfl (.tmp 2) (.tmp 118) rfl rfl rfl H.out.2.r rfl (by simp [le_len]) (one_ab _) ?_; intro w9 b9 k9))
              exact ret_arr arrB rfl rfl b9 (by simp [le_len]) rfl ⟨rfl, H.out.2.k.then1 k9 N.out.l2⟩
end Go.Proofs.Ytkflljjcgihaoaa

namespace Go.Proofs.Ytkflljjcgihaoaa
open Go.RowKit
namespace Mul64
theorem divN (a : Nat) : (a : Int) / 4294967296 = ((a / 4294967296 : Nat) : Int) := by omega
theorem mulN (a b : Nat) : (a : Int) * (b : Int) = ((a * b : Nat) : Int) := (Int.natCast_mul a b).symm
theorem addN (a b : Nat) : (a : Int) + (b : Int) = ((a + b : Nat) : Int) := (Int.natCast_add a b).symm
theorem wrapN (a : Nat) (ha : a < 18446744073709551616) : IntKind.u64.wrap (a : Int) = (a : Int) := by rw [IntKind.wrap_u64]; omega
theorem wrapM (a : Nat) : IntKind.u64.wrap (a : Int) = ((a % 18446744073709551616 : Nat) : Int) := by rw [IntKind.wrap_u64]; omega
theorem maskN (a : Nat) (ha : a < 18446744073709551616) : bits .and .u64 (a : Int) 4294967295 = ((a % 4294967296 : Nat) : Int) := by
  rw [and_low32 _ (by omega) (by omega)]; omega
end Mul64

set_option maxHeartbeats 1000000 in
theorem mul64_any (x y : Nat) (hx : x < 18446744073709551616) (hy : y < 18446744073709551616) (w : World) :
    Calls Try.prog 66 #[.int .u64 x, .int .u64 y] w fun e w' => e = .returned (.tuple #[.int .u64 ((x * y / 18446744073709551616 : Nat) : Int), .int .u64 ((x * y % 18446744073709551616 : Nat) : Int)]) ∧ w = w' := by
  obtain ⟨bd, bt, bw, hhi⟩ := Lib.mul64_hi x y hx hy
  have ba := Lib.half_mul_le (a := x / 4294967296) (b := y / 4294967296) (by omega) (by omega)
  have bb := Lib.half_mul_le (a := x / 4294967296) (b := y % 4294967296) (by omega) (by omega)
  have bc := Lib.half_mul_le (a := x % 4294967296) (b := y / 4294967296) (by omega) (by omega)
  have ba' : x / 4294967296 * (y / 4294967296) < 18446744073709551616 := by omega
  have bb' : x / 4294967296 * (y % 4294967296) < 18446744073709551616 := by omega
  have bc' : x % 4294967296 * (y / 4294967296) < 18446744073709551616 := by omega
  have bh1 : x / 4294967296 * (y / 4294967296) + (x / 4294967296 * (y % 4294967296) + x % 4294967296 * (y % 4294967296) / 4294967296) / 4294967296 < 18446744073709551616 := by omega
  have bh : x / 4294967296 * (y / 4294967296) + (x / 4294967296 * (y % 4294967296) + x % 4294967296 * (y % 4294967296) / 4294967296) / 4294967296 + ((x / 4294967296 * (y % 4294967296) + x % 4294967296 * (y % 4294967296) / 4294967296) % 4294967296 + x % 4294967296 * (y / 4294967296)) / 4294967296 < 18446744073709551616 := by omega
  have H := Lib.hid (And.intro bd (And.intro bt (And.intro bw (And.intro hhi (And.intro ba' (And.intro bb' (And.intro bc' (And.intro bh1 bh))))))))
  clear bd bt bw hhi ba bb bc ba' bb' bc' bh1 bh
  go_enter Try.func66, Try.ntmps66
  go_wp2
  obtain ⟨bd, bt, bw, hhi, ba', bb', bc', bh1, bh⟩ := H.out
  simp only [Mul64.maskN x hx, Mul64.maskN y hy, Mul64.divN, Mul64.mulN, Mul64.addN, Mul64.wrapN _ bd, Mul64.wrapN _ bb', Mul64.wrapN _ bt, Mul64.maskN _ bt, Mul64.wrapN _ bc', Mul64.wrapN _ bw, Mul64.wrapN _ ba', Mul64.wrapN _ bh1, Mul64.wrapN _ bh, Mul64.wrapM (x * y)]
  rw [hhi]
  go_ret2
  exact ⟨rfl, rfl⟩

end Go.Proofs.Ytkflljjcgihaoaa

namespace Go.Proofs.Ytkflljjcgihaoaa
open Go.RowKit Go.Mem

def h64 (x : Nat) : Nat := x / 18446744073709551616
def l64 (x : Nat) : Nat := x % 18446744073709551616
theorem l64_lt (x : Nat) : l64 x < 18446744073709551616 := Nat.mod_lt _ (by decide)
/-- A number of 128 bits. -/
abbrev prs (x : Nat) : List Nat := [h64 x, l64 x]
abbrev pr (x : Nat) : Value := .agg (uv (prs x)).toArray
theorem structPr : RowT Try.prog 96 2 := ⟨⟨_, Try.underlying96, rfl⟩, by kernel_rfl⟩
theorem zeroPr : (Try.prog.info? 96).map (·.zero) = some (some (pr 0)) := by kernel_rfl
theorem built_pr (x : Nat) : Try.prog.built 96 [(0, .int .u64 (h64 x : Int)), (1, .int .u64 (l64 x : Int))] = some (uv (prs x)).toArray := by kernel_rfl
theorem mul_call (a b : Nat) (ha : a < 18446744073709551616) (hb : b < 18446744073709551616) (w : World) :
    Calls Try.prog 66 #[.int .u64 a, .int .u64 b] w fun e w' => e = .returned (.tuple #[.int .u64 (h64 (a * b) : Nat), .int .u64 (l64 (a * b) : Nat)]) ∧ Kept [] w w' :=
  (mul64_any a b ha hb w).mono (by rintro e w' ⟨rfl, rfl⟩; exact ⟨rfl, Kept.refl _ _⟩)
theorem call_add64 (x y c : Nat) (hc : c ≤ 1) (w : World) : (callFunc 64 #[.int .u64 x, .int .u64 y, .int .u64 c]).run Try.prog w =
    .ok (.value (.tuple #[.int .u64 ((x + y + c) % 18446744073709551616 : Nat), .int .u64 ((x + y + c) / 18446744073709551616 : Nat)])) w := by
  rw [run_callFunc_extern (e := add64Entry) Try.func64 (by kernel_rfl) (by kernel_rfl) (by kernel_rfl) (by kernel_rfl)]
  rw [run_add64 _ _ _ (by omega) (by omega) (by omega) (by omega)]
  simp [Result.andThen]

set_option maxRecDepth 100000 in
set_option maxHeartbeats 800000 in
theorem product_any (a b : Nat) (ha : a < 18446744073709551616) (hb : b < 18446744073709551616) (w : World) :
    Calls Try.prog 67 #[.int .u64 a, .int .u64 b] w fun e w' => e = .returned (pr (a * b)) ∧ Kept [] w w' := by
  have hm := Lib.hid (mul_call a b ha hb)
  obtain ⟨x, hx⟩ : ∃ x, x = a * b := ⟨_, rfl⟩
  rw [← hx] at hm ⊢
  clear hx ha hb
  go_enter Try.func67, Try.ntmps67
  go_wp2_with (first
    | ((with_reducible refine wpl_new (o := ⟨some 4, _, _, _, _, _⟩) rfl rfl zeroPr ?_); intro g1 w1 m1)
    | (go_at_call 66; refine (hm.out _).mono ?_; rintro e w2 ⟨rfl, k2⟩; have B := Lib.hid (And.intro (m1.blk.kept k2 (by simp)) (And.intro (m1.kept.then0 k2) m1.le)); clear m1 k2)
    | (refine wpl_build2 rfl 0 1 (.tmp 13) (.tmp 14) rfl rfl rfl (built_pr _) ?_)
    | (refine wpl_store_row structPr rfl (.tmp 4) (.tmp 15) rfl rfl rfl B.out.1 rfl rfl (one_uva _) ?_; intro w8 b8 k8))
  exact ret_row structPr rfl rfl b8 rfl rfl ⟨rfl, B.out.2.1.then1 k8 B.out.2.2⟩

theorem plus_lo (x y : Nat) : (l64 y + l64 x + 0) % 18446744073709551616 = l64 (x + y) := by unfold l64; omega
theorem plus_hi (x y : Nat) (h : x + y < 340282366920938463463374607431768211456) : (h64 y + h64 x + (l64 y + l64 x + 0) / 18446744073709551616) % 18446744073709551616 = h64 (x + y) := by unfold l64 h64; omega
theorem plus_c (x y : Nat) : (l64 y + l64 x + 0) / 18446744073709551616 ≤ 1 := by unfold l64; omega
def pc (x y : Nat) : Nat := (l64 y + l64 x + 0) / 18446744073709551616

set_option maxRecDepth 100000 in
set_option maxHeartbeats 1600000 in
theorem plus_any (x a b : Nat) (ha : a < 18446744073709551616) (hb : b < 18446744073709551616) (hs : x + a * b < 340282366920938463463374607431768211456) (w : World) :
    Calls Try.prog 68 #[pr x, .int .u64 a, .int .u64 b] w fun e w' => e = .returned (pr (x + a * b)) ∧ Kept [] w w' := by
  have hm := Lib.hid (mul_call a b ha hb)
  obtain ⟨y, hy⟩ : ∃ y, y = a * b := ⟨_, rfl⟩
  rw [← hy] at hm hs ⊢
  have a1 : ∀ W, (callFunc 64 #[.int .u64 (l64 y : Nat), .int .u64 (l64 x : Nat), .int .u64 0]).run Try.prog W = .ok (.value (.tuple #[.int .u64 (l64 (x + y) : Nat), .int .u64 (pc x y : Nat)])) W := fun W => by
    have := call_add64 (l64 y) (l64 x) 0 (by omega) W
    rw [plus_lo, show (l64 y + l64 x + 0) / 18446744073709551616 = pc x y from rfl] at this
    exact this
  have a2 := fun W => call_add64 (h64 y) (h64 x) (pc x y) (plus_c x y) W
  rw [show (h64 y + h64 x + pc x y) % 18446744073709551616 = h64 (x + y) from plus_hi x y hs] at a2
  obtain ⟨z, hz⟩ : ∃ z, z = x + y := ⟨_, rfl⟩
  rw [← hz] at a1 a2 ⊢
  clear hy ha hb hs hz
  go_enter Try.func68, Try.ntmps68
  go_wp2_with (first
    | ((with_reducible refine wpl_box (o := ⟨some 3, _, _, _, _, _⟩) (v := pr x) rfl (.tmp 0) rfl rfl ?_); intro g1 w1 m1)
    | ((with_reducible refine wpl_new (o := ⟨some 6, _, _, _, _, _⟩) rfl rfl zeroPr ?_); intro g2 w2 m2)
    | (go_at_call 66; refine (hm.out _).mono ?_; rintro e w3 ⟨rfl, k3⟩; have B := Lib.hid (And.intro (m2.blk.kept k3 (by simp)) (And.intro ((m1.kept.then0 m2.kept).then0 k3) (Nat.le_trans m1.kept.size m2.le))); have c0 : w3.cell? ⟨g1, 0, none⟩ = some (.int .u64 (h64 x : Nat)) := Blk.uget (l := prs x) ((m1.blk.kept m2.kept (by simp)).kept k3 (by simp)) 0 (by simp); have c1 : w3.cell? ⟨g1, 1, none⟩ = some (.int .u64 (l64 x : Nat)) := Blk.uget (l := prs x) ((m1.blk.kept m2.kept (by simp)).kept k3 (by simp)) 1 (by simp); clear m1 m2 k3)
    | (refine wpl_build2 rfl 0 1 (.tmp 31) (.tmp 32) rfl rfl rfl (built_pr _) ?_)
    | (refine wpl_store_row structPr rfl (.tmp 6) (.tmp 33) rfl rfl rfl B.out.1 rfl rfl (one_uva _) ?_; intro w8 b8 k8))
  exact ret_row structPr rfl rfl b8 rfl rfl ⟨rfl, B.out.2.1.then1 k8 B.out.2.2⟩
end Go.Proofs.Ytkflljjcgihaoaa

namespace Go.Proofs.Ytkflljjcgihaoaa
open Go.RowKit Go.Mem

def up51 (x : Nat) : Nat := x / 2251799813685248
theorem over_word (x : Nat) (h : x < 41538374868278621028243970633760768) : bits .or .u64 (((h64 x : Nat) : Int) * 8192) (((l64 x : Nat) : Int) / 2251799813685248) = ((up51 x : Nat) : Int) := by
  have h1 : h64 x < 2251799813685248 := by unfold h64; omega
  have h2 := l64_lt x
  have e : up51 x = 8192 * h64 x + l64 x / 2251799813685248 := by unfold up51 h64 l64; omega
  have h3 : l64 x / 2251799813685248 < 2 ^ 13 := by omega
  rw [show ((h64 x : Nat) : Int) * 8192 = ((8192 * h64 x : Nat) : Int) from by omega, show ((l64 x : Nat) : Int) / 2251799813685248 = ((l64 x / 2251799813685248 : Nat) : Int) from by omega,
    bits_or_u64_nat _ _ (by omega) (by omega), e, show (8192 : Nat) = 2 ^ 13 from rfl, Nat.two_pow_add_eq_or_of_lt h3]

set_option maxRecDepth 100000 in
set_option maxHeartbeats 800000 in
theorem over_any (x : Nat) (h : x < 41538374868278621028243970633760768) (w : World) :
    Calls Try.prog 81 #[pr x] w fun e w' => e = .returned (.int .u64 (up51 x : Nat)) ∧ Kept [] w w' := by
  have hw := over_word x h
  have h1 : h64 x < 2251799813685248 := by unfold h64; omega
  clear h
  go_enter Try.func81, Try.ntmps81
  go_wp2_with ((with_reducible refine wpl_box (o := ⟨some 1, _, _, _, _, _⟩) (v := pr x) rfl (.tmp 0) rfl rfl ?_); intro g1 w1 m1; have c0 : w1.cell? ⟨g1, 0, none⟩ = some (.int .u64 (h64 x : Nat)) := Blk.uget (l := prs x) m1.blk 0 (by simp); have c1 : w1.cell? ⟨g1, 1, none⟩ = some (.int .u64 (l64 x : Nat)) := Blk.uget (l := prs x) m1.blk 1 (by simp); have M := Lib.hid m1.kept; clear m1)
  go_ret
  exact ⟨rfl, M.out⟩
end Go.Proofs.Ytkflljjcgihaoaa

namespace Go.Proofs.Ytkflljjcgihaoaa
open Go.RowKit Go.Mem

def lo51 (x : Nat) : Nat := x % 2251799813685248
theorem lo_word (x : Nat) : bits .and .u64 ((l64 x : Nat) : Int) 2251799813685247 = ((lo51 x : Nat) : Int) := by
  rw [and51 (l64 x) (l64_lt x)]
  unfold l64 lo51
  omega
/-- The limbs of five sums. -/
def gaL (t : Nat → Nat) (i : Nat) : Nat := if i = 0 then lo51 (t 0) + 19 * up51 (t 4) else lo51 (t i) + up51 (t (i - 1))
/-- Five sums that fit. -/
structure Fit (t : Nat → Nat) : Prop where
  lo : ∀ i, i < 4 → t i < 2596148429267413814265248164610048
  top : t 4 < 162259276829213363391578010288128
theorem Fit.word {t : Nat → Nat} (h : Fit t) (i : Nat) (hi : i < 5) : gaL t i < 18446744073709551616 := by
  have l0 : ∀ i, lo51 (t i) < 2251799813685248 := fun i => Nat.mod_lt _ (by decide)
  have := h.top
  unfold gaL up51
  split
  · have := l0 0; omega
  · have := l0 i; have := h.lo (i - 1) (by omega); omega
theorem gaL_val (t : Nat → Nat) : fv (gaL t) + PP * up51 (t 4) = fv t := by
  unfold fv
  rw [show gaL t 0 = lo51 (t 0) + 19 * up51 (t 4) from rfl, show gaL t 1 = lo51 (t 1) + up51 (t 0) from rfl, show gaL t 2 = lo51 (t 2) + up51 (t 1) from rfl, show gaL t 3 = lo51 (t 3) + up51 (t 2) from rfl, show gaL t 4 = lo51 (t 4) + up51 (t 3) from rfl]
  unfold PP lo51 up51
  omega
theorem ga_lim {t : Nat → Nat} (h : Fit t) : Lim (carL (gaL t)) := carL_lim _ h.word
theorem ga_mod (t : Nat → Nat) : fv (carL (gaL t)) % PP = fv t % PP := by
  rw [carL_mod, ← gaL_val t, Nat.add_mul_mod_self_left]
/-- The five sums of a product. -/
def mulT (F G : Nat → Nat) (i : Nat) : Nat :=
  if i = 0 then F 0 * G 0 + 19 * F 1 * G 4 + 19 * F 2 * G 3 + 19 * F 3 * G 2 + 19 * F 4 * G 1
  else if i = 1 then F 0 * G 1 + F 1 * G 0 + 19 * F 2 * G 4 + 19 * F 3 * G 3 + 19 * F 4 * G 2
  else if i = 2 then F 0 * G 2 + F 1 * G 1 + F 2 * G 0 + 19 * F 3 * G 4 + 19 * F 4 * G 3
  else if i = 3 then F 0 * G 3 + F 1 * G 2 + F 2 * G 1 + F 3 * G 0 + 19 * F 4 * G 4
  else F 0 * G 4 + F 1 * G 3 + F 2 * G 2 + F 3 * G 1 + F 4 * G 0
theorem mulT_val (F G : Nat → Nat) : fv F * fv G = fv (mulT F G) + PP * ((F 1 * G 4 + F 2 * G 3 + F 3 * G 2 + F 4 * G 1) + 2251799813685248 * (F 2 * G 4 + F 3 * G 3 + F 4 * G 2) + 5070602400912917605986812821504 * (F 3 * G 4 + F 4 * G 3) + 11417981541647679048466287755595961091061972992 * (F 4 * G 4)) := by
  unfold fv
  rw [show mulT F G 0 = F 0 * G 0 + 19 * F 1 * G 4 + 19 * F 2 * G 3 + 19 * F 3 * G 2 + 19 * F 4 * G 1 from rfl,
    show mulT F G 1 = F 0 * G 1 + F 1 * G 0 + 19 * F 2 * G 4 + 19 * F 3 * G 3 + 19 * F 4 * G 2 from rfl,
    show mulT F G 2 = F 0 * G 2 + F 1 * G 1 + F 2 * G 0 + 19 * F 3 * G 4 + 19 * F 4 * G 3 from rfl,
    show mulT F G 3 = F 0 * G 3 + F 1 * G 2 + F 2 * G 1 + F 3 * G 0 + 19 * F 4 * G 4 from rfl,
    show mulT F G 4 = F 0 * G 4 + F 1 * G 3 + F 2 * G 2 + F 3 * G 1 + F 4 * G 0 from rfl]
  unfold PP
  generalize F 0 = a0, F 1 = a1, F 2 = a2, F 3 = a3, F 4 = a4, G 0 = b0, G 1 = b1, G 2 = b2, G 3 = b3, G 4 = b4
  grind
theorem prod_lt {F G : Nat → Nat} (hF : Lim F) (hG : Lim G) (i j : Nat) (hi : i < 5) (hj : j < 5) : F i * G j < 20282409603651670423947251286016 :=
  Nat.lt_of_le_of_lt (Nat.mul_le_mul (Nat.le_sub_one_of_lt (hF i hi)) (Nat.le_sub_one_of_lt (hG j hj))) (by decide)
theorem mulT_fit {F G : Nat → Nat} (hF : Lim F) (hG : Lim G) : Fit (mulT F G) := by
  have p := prod_lt hF hG
  have p00 := p 0 0 (by omega) (by omega); have p01 := p 0 1 (by omega) (by omega); have p02 := p 0 2 (by omega) (by omega); have p03 := p 0 3 (by omega) (by omega); have p04 := p 0 4 (by omega) (by omega)
  have p10 := p 1 0 (by omega) (by omega); have p11 := p 1 1 (by omega) (by omega); have p12 := p 1 2 (by omega) (by omega); have p13 := p 1 3 (by omega) (by omega); have p14 := p 1 4 (by omega) (by omega)
  have p20 := p 2 0 (by omega) (by omega); have p21 := p 2 1 (by omega) (by omega); have p22 := p 2 2 (by omega) (by omega); have p23 := p 2 3 (by omega) (by omega); have p24 := p 2 4 (by omega) (by omega)
  have p30 := p 3 0 (by omega) (by omega); have p31 := p 3 1 (by omega) (by omega); have p32 := p 3 2 (by omega) (by omega); have p33 := p 3 3 (by omega) (by omega); have p34 := p 3 4 (by omega) (by omega)
  have p40 := p 4 0 (by omega) (by omega); have p41 := p 4 1 (by omega) (by omega); have p42 := p 4 2 (by omega) (by omega); have p43 := p 4 3 (by omega) (by omega); have p44 := p 4 4 (by omega) (by omega)
  constructor
  · intro i hi
    rcases (show i = 0 ∨ i = 1 ∨ i = 2 ∨ i = 3 by omega) with rfl | rfl | rfl | rfl <;> simp only [mulT, Nat.mul_assoc, if_true, if_false, Nat.reduceEqDiff, reduceCtorEq] <;> omega
  · simp only [mulT, Nat.mul_assoc, Nat.reduceEqDiff, reduceIte, reduceCtorEq]; omega
theorem Rep.mul {F G : Nat → Nat} {x y : Nat} (h : Rep F x) (h2 : Rep G y) : Rep (carL (gaL (mulT F G))) (x * y) := by
  refine ⟨ga_lim (mulT_fit h.lim h2.lim), ?_⟩
  have e := mulT_val F G
  rw [ga_mod, ← Nat.add_mul_mod_self_left (fv (mulT F G)) PP, ← e, Nat.mul_mod, h.val, h2.val, ← Nat.mul_mod]
end Go.Proofs.Ytkflljjcgihaoaa

namespace Go.Txt

/-- The class, what floats counted as free. -/
def clsF (P : Program) (F : List Nat) (i : Nat) (o : Oper) : Nat := if F.contains i then 1 else opCls P o.op

def pairF (P : Program) (ops : Array Oper) (F : List Nat) (i j : Nat) (x y : Oper) : Bool :=
  x.apart ops y && (clsF P F i x ≤ 1 || clsF P F j y ≤ 1 || (clsF P F i x == 2 && clsF P F j y == 2))

def settledF (P : Program) (ops : Array Oper) (F : List Nat) : Bool :=
  (List.range ops.size).all fun j => match ops[j]? with
    | none => true
    | some o => clsF P F j o != 1 || ((List.range ops.size).all fun k =>
      match (ops[k]?).bind (·.dst) with
      | some t => (!(o.looksAt ops).contains t || o.after.toList.any fun e => Region.binds .any e && e.on == k) && (!F.contains j || k == j || o.dst != some t)
      | none => true)

def freeF (P : Program) (ops : Array Oper) (F : List Nat) (listed : Array Bool) (i : Nat) : Bool :=
  match ops[i]? with
  | none => false
  | some oi => (List.range ops.size).all fun j => j == i || listed.getD j true ||
    match ops[j]? with
    | none => true
    | some oj => (behind i ops.toList #[]).getD j false || pairF P ops F i j oi oj

def fromF (P : Program) (ops : Array Oper) (F : List Nat) : Nat → Nat → Array Bool → Bool
  | 0, _, listed => (Region.ready .any ops listed).isEmpty
  | fuel + 1, k, listed => (Region.ready .any ops listed).contains k && freeF P ops F listed k && fromF P ops F fuel (k + 1) (listed.setIfInBounds k true)

def textF (P : Program) (ops : Array Oper) (F : List Nat) : Bool :=
  Region.noSelect ops && settledF P ops F && fromF P ops F ops.size 0 (Array.replicate ops.size false)

/-- The text's list in parts: a part ends behind each operation of class 3. -/
def parts (P : Program) : List Oper → List (List Oper)
  | [] => [[]]
  | o :: l => match parts P l with
    | [] => [[o]]
    | p :: ps => if opCls P o.op = 3 then [o] :: p :: ps else (o :: p) :: ps

/-- What is known at the region's end. -/
def Good (P : Program) (ops : Array Oper) (F : List Nat) (S : World → Prop) (a : Act) : Prop :=
  ((List.range ops.size).all fun j => match ops[j]? with
    | none => true
    | some o => F.contains j || opCls P o.op != 1 || !Region.wanted o (yielded ops a.tmps) || fitsOp a.eval o.op) = true ∧
  ∀ j ∈ F, ∀ o, ops[j]? = some o → Region.wanted o (yielded ops a.tmps) = true → ∃ d, o.dst = some d ∧ ∀ w, S w → (execOp a.eval o).run P w = .ok (.value (a.tmps.getD d undef)) w

def SegPost (S : World → Prop) (K : Act → World → Prop) (e : Exit) (a : Act) (w : World) : Prop := e = .normal ∧ S w ∧ K a w

def wpSegs (P : Program) (ops : Array Oper) (S : World → Prop) (G : Act → World → Prop) : List (List Oper) → Act → World → Prop
  | [] => G
  | s :: ss => fun a w => wpList P ops (SegPost S (wpSegs P ops S G ss)) s a w

def T0 : Exit → Act → World → Prop := fun _ _ _ => False
theorem hT0 : ∀ e a w, T0 e a w → e = .normal := fun _ _ _ h => h.elim

section
variable {P : Program} {ops : Array Oper} {F : List Nat} {S : World → Prop} {G : Act → World → Prop}

/-- One operation, behind which S holds. -/
def opS (P : Program) (ops : Array Oper) (S : World → Prop) (i : Nat) (K : Act → World → Prop) (a : Act) (w : World) : Prop := wpOp P ops T0 i (fun a' w' => S w' ∧ K a' w') a w

theorem opS_mono {i : Nat} {K K' : Act → World → Prop} {a : Act} {w : World} (h : ∀ a w, S w → K a w → K' a w) (hh : opS P ops S i K a w) : opS P ops S i K' a w :=
  wpOp_mono (fun a w hk => ⟨hk.1, h a w hk.1 hk.2⟩) hh

def anyS (P : Program) (ops : Array Oper) (S : World → Prop) (G : Act → World → Prop) : Nat → Array Bool → Act → World → Prop
  | 0, listed, a, w => Region.ready .any ops listed = [] ∧ G a w
  | fuel + 1, listed, a, w => (Region.ready .any ops listed = [] → G a w) ∧ ∀ i ∈ Region.ready .any ops listed, opS P ops S i (anyS P ops S G fuel (listed.setIfInBounds i true)) a w

theorem anyS_some : ∀ (fuel : Nat) (listed : Array Bool) (a : Act) (w : World), anyS P ops S G fuel listed a w →
    ∃ a' w', G a' w' ∧ ∀ t, (∀ j o, ops[j]? = some o → listed.getD j true = false → o.dst ≠ some t) → a'.tmps[t]? = a.tmps[t]?
  | 0, _, a, w, h => ⟨a, w, h.2, fun _ _ => rfl⟩
  | fuel + 1, listed, a, w, h => by
    cases hr : Region.ready .any ops listed with
    | nil => exact ⟨a, w, h.1 hr, fun _ _ => rfl⟩
    | cons i rs =>
      have hi : i ∈ Region.ready .any ops listed := by rw [hr]; simp
      obtain ⟨hun, oi, hoi, _⟩ := mem_ready.1 hi
      obtain ⟨a1, w1, h1, k1⟩ := wpOp_some hT0 hoi (h.2 i hi)
      obtain ⟨a2, w2, h2, k2⟩ := anyS_some fuel _ a1 w1 h1.2
      refine ⟨a2, w2, h2, fun t ht => ?_⟩
      rw [k2 t fun j o hj hu => ?_, k1 t (ht i oi hoi hun)]
      refine ht j o hj ?_
      by_cases hij : i = j
      · subst hij; exact hun
      · rw [getD_set_ne true hij] at hu; exact hu

/-- Yields this value in every world of S. -/
def YieldsS (P : Program) (ops : Array Oper) (S : World → Prop) (o : Oper) (v : Value) (a : Act) : Prop :=
  (Region.wanted o (yielded ops a.tmps) = true ∧ ∀ w, S w → (execOp a.eval o).run P w = .ok (.value v) w) ∨
  (Region.wanted o (yielded ops a.tmps) = false ∧ v = undef)

theorem YieldsS.opS {i : Nat} {o : Oper} {v : Value} {a : Act} (hi : ops[i]? = some o) (hy : YieldsS P ops S o v a) {K : Act → World → Prop} {w : World} (hw : S w) (h : K (a.put o.dst v) w) : opS P ops S i K a w := by
  unfold Txt.opS wpOp
  simp only [hi]
  rcases hy with ⟨hwn, hv⟩ | ⟨hwn, rfl⟩
  · simp only [hwn, if_true, Oper.wp, hv w hw, Oper.upon]; exact .inl ⟨hw, h⟩
  · simp only [hwn, Bool.false_eq_true, if_false]; exact ⟨hw, h⟩

theorem YieldsS.of_same {o : Oper} {v : Value} {a a' : Act} (hy : YieldsS P ops S o v a) (he : execOp a'.eval o = execOp a.eval o)
    (hw : Region.wanted o (yielded ops a'.tmps) = Region.wanted o (yielded ops a.tmps)) : YieldsS P ops S o v a' := by
  unfold YieldsS at *
  rw [he, hw]
  exact hy

theorem of_yieldsS {oj : Oper} {j : Nat} (hoj : ops[j]? = some oj) {a : Act} {w : World} (hw : S w) {K : Act → World → Prop} {v : Value} (hy : YieldsS P ops S oj v a)
    (h : opS P ops S j K a w) : K (a.put oj.dst v) w := by
  unfold opS wpOp at h
  simp only [hoj] at h
  rcases hy with ⟨hwn, hv⟩ | ⟨hwn, rfl⟩
  · rw [if_pos hwn] at h
    rcases h with h | ⟨_, hl⟩
    case inr => exact (not_lets hT0 hl).elim
    unfold Oper.wp at h
    rw [hv w hw] at h
    exact h.2
  · rw [if_neg (by simp [hwn])] at h
    exact h.2

/-- 'oi', then 'oj' which yields its value: 'oj' first. -/
theorem opS_shift {i j : Nat} {oi oj : Oper} {v : Value} (hoi : ops[i]? = some oi) (hoj : ops[j]? = some oj) (hap : oi.apart ops oj = true)
    (hsi : ∀ cs b, oi.op ≠ .select cs b) (hsj : ∀ cs b, oj.op ≠ .select cs b) {K : Act → World → Prop} {a : Act} {w : World}
    (hy : YieldsS P ops S oj v a) (h : opS P ops S i (fun a' w' => opS P ops S j K a' w') a w) : opS P ops S i K (a.put oj.dst v) w := by
  obtain ⟨h1, h2, h3⟩ := Oper.apart_spec hap
  have keep : ∀ (d : List Deferred) (u : Value), YieldsS P ops S oj v (({ a with defers := d } : Act).put oi.dst u) := fun d u =>
    hy.of_same (execOp_put oj hsj { a with defers := d } oi.dst u h1) (wanted_put oj { a with defers := d } oi.dst u h1)
  have comm : ∀ (d : List Deferred) (u : Value), (({ a with defers := d } : Act).put oi.dst u).put oj.dst v = ({ a.put oj.dst v with defers := d } : Act).put oi.dst u := fun d u => by
    rw [Act.put_comm _ u v h2]
    cases oj.dst <;> rfl
  have go : ∀ (d : List Deferred) (u : Value) (w' : World), (S w' ∧ opS P ops S j K (({ a with defers := d } : Act).put oi.dst u) w') → (S w' ∧ K (({ a.put oj.dst v with defers := d } : Act).put oi.dst u) w') := fun d u w' hh => by
    refine ⟨hh.1, ?_⟩
    rw [← comm d u]; exact of_yieldsS hoj hh.1 (keep d u) hh.2
  have hdef : (a.put oj.dst v).defers = a.defers := by cases oj.dst <;> rfl
  have same : ∀ u, ({ a.put oj.dst v with defers := a.defers } : Act).put oi.dst u = (a.put oj.dst v).put oi.dst u := fun u => by
    cases hd : oj.dst <;> rfl
  unfold opS wpOp at h
  unfold opS wpOp
  simp only [hoi] at h ⊢
  rw [wanted_put oi a oj.dst v h3]
  split
  · rename_i hw
    rw [if_pos hw] at h
    rcases h with h | ⟨_, hl⟩
    case inr => exact (not_lets hT0 hl).elim
    refine .inl ?_
    unfold Oper.wp at *
    rw [execOp_put oi hsi a oj.dst v h3]
    generalize (execOp a.eval oi).run P w = r at *
    cases r with
    | ok n w' =>
      cases n <;> simp only [Oper.upon] at h ⊢
      case value u => have := go a.defers u w' h; rwa [same] at this
      case skip => have := go a.defers undef w' h; rwa [same] at this
      case defer d => have := go (d :: a.defers) undef w' h; rw [hdef]; exact this
      case enter f args =>
        refine Calls.mono h fun e w'' he => ?_
        cases e with
        | returned u => have := go a.defers u w'' he; rwa [same] at this
        | panicked c => exact he
        | outgrown => exact he
      case row row args =>
        refine Rows.mono h fun u w'' he => ?_
        have := go a.defers u w'' he; rwa [same] at this
    | halt x w' =>
      cases x <;> simp only [Oper.upon] at h ⊢
      case panic u => exact h
  · rename_i hw
    rw [if_neg hw] at h
    have := go a.defers undef w h; rwa [same] at this

/-- 'oi' yields its value, then 'oj': 'oj' first. -/
theorem opS_put {i j : Nat} {oi oj : Oper} {v : Value} (hoi : ops[i]? = some oi) (hoj : ops[j]? = some oj) (hap : oi.apart ops oj = true)
    (hsi : ∀ cs b, oi.op ≠ .select cs b) (hsj : ∀ cs b, oj.op ≠ .select cs b) {K : Act → World → Prop} {a : Act} {w : World}
    (hy : YieldsS P ops S oi v a) (h : opS P ops S j K (a.put oi.dst v) w) : opS P ops S j (fun a' w' => opS P ops S i K a' w') a w := by
  obtain ⟨h1, h2, h3⟩ := Oper.apart_spec hap
  have keep : ∀ (d : List Deferred) (u : Value), YieldsS P ops S oi v (({ a with defers := d } : Act).put oj.dst u) := fun d u =>
    hy.of_same (execOp_put oi hsi { a with defers := d } oj.dst u h3) (wanted_put oi { a with defers := d } oj.dst u h3)
  have comm : ∀ (d : List Deferred) (u : Value), ({ a.put oi.dst v with defers := d } : Act).put oj.dst u = (({ a with defers := d } : Act).put oj.dst u).put oi.dst v := fun d u => by
    rw [Act.put_comm _ u v (fun d hd he => h2 d he hd)]
    cases oi.dst <;> rfl
  have go : ∀ (d : List Deferred) (u : Value) (w' : World), (S w' ∧ K (({ a.put oi.dst v with defers := d } : Act).put oj.dst u) w') → (S w' ∧ opS P ops S i K (({ a with defers := d } : Act).put oj.dst u) w') := fun d u w' hh => by
    refine ⟨hh.1, (keep d u).opS hoi hh.1 ?_⟩
    rw [← comm d u]; exact hh.2
  have hdef : (a.put oi.dst v).defers = a.defers := by cases oi.dst <;> rfl
  have same : ∀ u, ({ a.put oi.dst v with defers := a.defers } : Act).put oj.dst u = (a.put oi.dst v).put oj.dst u := fun u => by
    cases hd : oi.dst <;> rfl
  unfold opS wpOp at h
  unfold opS wpOp
  simp only [hoj] at h ⊢
  rw [wanted_put oj a oi.dst v h1] at h
  split
  · rename_i hw
    rw [if_pos hw] at h
    rcases h with h | ⟨_, hl⟩
    case inr => exact (not_lets hT0 hl).elim
    refine .inl ?_
    unfold Oper.wp at *
    rw [execOp_put oj hsj a oi.dst v h1] at h
    generalize (execOp a.eval oj).run P w = r at *
    cases r with
    | ok n w' =>
      cases n <;> simp only [Oper.upon] at h ⊢
      case value u => exact go a.defers u w' (by rw [same]; exact h)
      case skip => exact go a.defers undef w' (by rw [same]; exact h)
      case defer d => rw [hdef] at h; exact go (d :: a.defers) undef w' h
      case enter f args =>
        refine Calls.mono h fun e w'' he => ?_
        cases e with
        | returned u => exact go a.defers u w'' (by rw [same]; exact he)
        | panicked c => exact he
        | outgrown => exact he
      case row row args => exact Rows.mono h fun u w'' he => go a.defers u w'' (by rw [same]; exact he)
    | halt x w' =>
      cases x <;> simp only [Oper.upon] at h ⊢
      case panic u => exact h
  · rename_i hw
    rw [if_neg hw] at h
    exact go a.defers undef w (by rw [same]; exact h)

theorem opS_reads {i j : Nat} {oi oj : Oper} (hoi : ops[i]? = some oi) (hoj : ops[j]? = some oj) (hap : oi.apart ops oj = true)
    (hsi : ∀ cs b, oi.op ≠ .select cs b) (hsj : ∀ cs b, oj.op ≠ .select cs b) {K : Act → World → Prop} {a : Act} {w : World} (hw : S w)
    (hi : opCls P oi.op = 2) (hj : opCls P oj.op = 2) (h : opS P ops S i (fun a' w' => opS P ops S j K a' w') a w) : opS P ops S j (fun a' w' => opS P ops S i K a' w') a w := by
  obtain ⟨h1, h2, h3⟩ := Oper.apart_spec hap
  have look : ∀ (k : Nat) (o : Oper) (b : Act) (K : Act → World → Prop), ops[k]? = some o → opCls P o.op = 2 → opS P ops S k K b w →
      ∃ v, K (b.put o.dst v) w ∧ ((Region.wanted o (yielded ops b.tmps) = true ∧ (execOp b.eval o).run P w = .ok (.value v) w) ∨ (Region.wanted o (yielded ops b.tmps) = false ∧ v = undef)) := by
    intro k o b K hk hc h
    obtain ⟨dst, op, t, pos, af, g⟩ := o
    unfold opS wpOp at h
    simp only [hk] at h
    split at h
    · rename_i hwn
      rcases h with h | ⟨_, hl⟩
      case inr => exact (not_lets hT0 hl).elim
      unfold Oper.wp at h
      cases hr : (execOp b.eval ⟨dst, op, t, pos, af, g⟩).run P w with
      | ok n w' =>
        obtain ⟨rfl, v, rfl⟩ := peeks2 hc b.eval dst t pos af g _ _ _ hr
        rw [hr] at h
        exact ⟨v, h.2, .inl ⟨hwn, rfl⟩⟩
      | halt x w' =>
        rw [hr] at h
        cases x <;> simp only [Oper.upon] at h
        case panic u => exact h.elim
    · rename_i hwn
      exact ⟨undef, h.2, .inr ⟨by simpa using hwn, rfl⟩⟩
  have back : ∀ (k : Nat) (o : Oper) (b : Act) (K : Act → World → Prop) (v : Value), ops[k]? = some o → K (b.put o.dst v) w →
      ((Region.wanted o (yielded ops b.tmps) = true ∧ (execOp b.eval o).run P w = .ok (.value v) w) ∨ (Region.wanted o (yielded ops b.tmps) = false ∧ v = undef)) → opS P ops S k K b w := by
    intro k o b K v hk hK hh
    unfold opS wpOp
    simp only [hk]
    rcases hh with ⟨hwn, hv⟩ | ⟨hwn, rfl⟩
    · simp only [hwn, if_true, Oper.wp, hv, Oper.upon]; exact .inl ⟨hw, hK⟩
    · simp only [hwn, Bool.false_eq_true, if_false]; exact ⟨hw, hK⟩
  obtain ⟨u, hu, ru⟩ := look i oi a _ hoi hi h
  obtain ⟨v, hv, rv⟩ := look j oj _ _ hoj hj hu
  rw [wanted_put oj a oi.dst u h1, execOp_put oj hsj a oi.dst u h1] at rv
  refine back j oj a _ v hoj (back i oi _ _ u hoi ?_ ?_) rv
  · rw [← Act.put_comm a u v h2]; exact hv
  · rw [wanted_put oi a oj.dst v h3, execOp_put oi hsi a oj.dst v h3]; exact ru

theorem settledF_spec (h : settledF P ops F = true) {j k : Nat} {oj ok : Oper} (hj : ops[j]? = some oj) (hc : clsF P F j oj = 1) (hk : ops[k]? = some ok) {t : Tmp} (hd : ok.dst = some t) :
    (t ∈ oj.looksAt ops → ∃ e ∈ oj.after, Region.binds .any e = true ∧ e.on = k) ∧ (j ∈ F → k ≠ j → oj.dst ≠ some t) := by
  unfold settledF at h
  have hjl : j < ops.size := (Array.getElem?_eq_some_iff.1 hj).1
  have h1 := List.all_eq_true.1 h j (by simpa using hjl)
  simp only [hj, hc, bne_self_eq_false, Bool.false_or] at h1
  have hlt : k < ops.size := (Array.getElem?_eq_some_iff.1 hk).1
  have h2 := List.all_eq_true.1 h1 k (by simpa using hlt)
  simp only [hk, Option.bind_some, hd, Bool.and_eq_true] at h2
  refine ⟨fun ht => ?_, fun hF hne hdj => ?_⟩
  · have hcon : (oj.looksAt ops).contains t = true := by simpa using ht
    have h3 := h2.1
    rw [hcon] at h3
    simp only [Bool.not_true, Bool.false_or] at h3
    obtain ⟨e, he, hb⟩ := List.any_eq_true.1 h3
    simp only [Bool.and_eq_true, beq_iff_eq] at hb
    exact ⟨e, by simpa using he, hb.1, hb.2⟩
  · have h3 := h2.2
    have hFc : F.contains j = true := by simpa using hF
    rw [hFc, hdj] at h3
    simp [hne] at h3

/-- An operation that is free (or floats), with what is known at the end: it yields one value in every world of S. -/
theorem yields_end {j : Nat} {oj : Oper} (hoj : ops[j]? = some oj) (hsj : ∀ cs b, oj.op ≠ .select cs b) (hc : clsF P F j oj ≤ 1) {a a' : Act} (hgood : Good P ops F S a') (hlook : clsF P F j oj = 1 → ∀ t ∈ oj.looksAt ops, a'.tmps[t]? = a.tmps[t]?)
    {w : World} (hw : S w) {r : Next} {w1 : World} (hwn : Region.wanted oj (yielded ops a.tmps) = true) (hrun : (execOp a.eval oj).run P w = .ok r w1) : w1 = w ∧ ∃ v, r = .value v ∧ YieldsS P ops S oj v a := by
  by_cases hF : j ∈ F
  · have h1 : clsF P F j oj = 1 := by unfold clsF; rw [if_pos (by simpa using hF)]
    obtain ⟨s1, s2⟩ := look_same (hlook h1)
    obtain ⟨d, _, hall⟩ := hgood.2 j hF oj hoj (by rw [s1]; exact hwn)
    have hex : execOp a'.eval oj = execOp a.eval oj := execOp_congr oj hsj s2
    rw [hex] at hall
    have := hall w hw
    rw [hrun] at this
    simp only [Result.ok.injEq] at this
    exact ⟨this.2, _, this.1, .inl ⟨hwn, hall⟩⟩
  · have hcl : clsF P F j oj = opCls P oj.op := by unfold clsF; rw [if_neg (by simpa using hF)]
    have hf : Free P (execOp a.eval oj) := free_of_cls (by omega) fun h1 => by
      obtain ⟨s1, s2⟩ := look_same (hlook (by omega))
      have hjl : j < ops.size := (Array.getElem?_eq_some_iff.1 hoj).1
      have := List.all_eq_true.1 hgood.1 j (by simpa using hjl)
      have hFc : F.contains j = false := by simpa using hF
      simp only [hoj, hFc, h1, s1, hwn, bne_self_eq_false, Bool.not_true, Bool.or_self, Bool.false_or] at this
      rw [← this]; exact (fitsOp_congr s2).symm
    obtain ⟨h1, v, h2, h3⟩ := hf w r w1 hrun
    exact ⟨h1, v, h2, .inl ⟨hwn, fun w _ => h3 w⟩⟩

theorem yields_opS {j : Nat} {oj : Oper} (hoj : ops[j]? = some oj) (hsj : ∀ cs b, oj.op ≠ .select cs b) (hc : clsF P F j oj ≤ 1) {a a' : Act} (hgood : Good P ops F S a') (hlook : clsF P F j oj = 1 → ∀ t ∈ oj.looksAt ops, a'.tmps[t]? = a.tmps[t]?)
    {w : World} (hw : S w) {K : Act → World → Prop} (h : opS P ops S j K a w) : ∃ v, YieldsS P ops S oj v a ∧ K (a.put oj.dst v) w := by
  unfold opS wpOp at h
  simp only [hoj] at h
  split at h
  · rename_i hwn
    rcases h with h | ⟨_, hl⟩
    case inr => exact (not_lets hT0 hl).elim
    unfold Oper.wp at h
    cases hr : (execOp a.eval oj).run P w with
    | ok n w' =>
      obtain ⟨rfl, v, rfl, hy⟩ := yields_end hoj hsj hc hgood hlook hw hwn hr
      rw [hr] at h
      exact ⟨v, hy, h.2⟩
    | halt x w' =>
      rw [hr] at h
      cases x <;> simp only [Oper.upon] at h
      case panic u => exact h.elim
  · rename_i hwn
    exact ⟨undef, .inr ⟨by simpa using hwn, rfl⟩, h.2⟩

/-- The operation that the text has next may be taken first. -/
theorem anyS_first (hG : ∀ a w, G a w → Good P ops F S a) (hset : settledF P ops F = true)
    (hsel : ∀ (j : Nat) (o : Oper) cs b, ops[j]? = some o → o.op ≠ .select cs b) {i : Nat} {oi : Oper} (hoi : ops[i]? = some oi) :
    ∀ (fuel : Nat) (listed : Array Bool) (a : Act) (w : World), S w → Closed ops listed →
      (∀ j oj, ops[j]? = some oj → j ≠ i → listed.getD j true = false → ¬ Late ops i oj → pairF P ops F i j oi oj = true) →
      i ∈ Region.ready .any ops listed →
      opS P ops S i (anyS P ops S G fuel (listed.setIfInBounds i true)) a w → anyS P ops S G (fuel + 1) listed a w := by
  intro fuel
  induction fuel with
  | zero =>
    intro listed a w _ _ _ hr H
    refine ⟨fun h => (by rw [h] at hr; cases hr), fun j hj => ?_⟩
    by_cases hji : j = i
    · subst hji; exact H
    · obtain ⟨a1, w1, h1, _⟩ := wpOp_some hT0 hoi H
      have := ready_mono hj hji
      rw [h1.2.1] at this
      cases this
  | succ fuel ih =>
    intro listed a w hSw hclo hfree hr H
    refine ⟨fun h => (by rw [h] at hr; cases hr), fun j hj => ?_⟩
    by_cases hji : j = i
    · subst hji; exact H
    · obtain ⟨hjun, oj, hoj, hall⟩ := mem_ready.1 hj
      obtain ⟨hiun, oi', hoi', halli⟩ := mem_ready.1 hr
      rw [hoi] at hoi'
      cases hoi'
      have hnot : ¬ Late ops i oj := not_late hclo hoj hj hiun
      have hpair := hfree j oj hoj hji hjun hnot
      have hfree' : ∀ k ok, ops[k]? = some ok → k ≠ i → (listed.setIfInBounds j true).getD k true = false →
          ¬ Late ops i ok → pairF P ops F i k oi ok = true := fun k ok hk hki hun hno => by
        refine hfree k ok hk hki ?_ hno
        by_cases hjk : j = k
        · subst hjk; exact hjun
        · rw [getD_set_ne true hjk] at hun; exact hun
      have hsi := fun cs b => hsel i oi cs b hoi
      have hsj := fun cs b => hsel j oj cs b hoj
      -- the end
      obtain ⟨a1, w1, h1, k1⟩ := wpOp_some hT0 hoi H
      obtain ⟨a2, w2, h2, k2⟩ := anyS_some _ _ _ _ h1.2
      have hgood := hG _ _ h2
      have look : ∀ (m : Nat) (om : Oper), ops[m]? = some om → clsF P F m om = 1 → (∀ e ∈ om.after, Region.binds .any e = true → listed.getD e.on false = true) → ∀ t ∈ om.looksAt ops, a2.tmps[t]? = a.tmps[t]? := by
        intro m om hm hc hallm t ht
        have unl : ∀ (k : Nat) (ok : Oper), ops[k]? = some ok → ok.dst = some t → listed.getD k true = true := by
          intro k ok hk hd
          obtain ⟨e, he, hb, rfl⟩ := (settledF_spec hset hm hc hk hd).1 ht
          have := hallm e he hb
          rcases Nat.lt_or_ge e.on listed.size with h' | h'
          · simp [h'] at this ⊢; exact this
          · simp [Array.getElem?_eq_none h'] at this
        rw [k2 t fun k ok hk hu hd => ?_, k1 t fun hd => ?_]
        · have := unl i oi hoi hd; rw [hiun] at this; cases this
        · have hl := unl k ok hk hd
          by_cases hik : i = k
          · subst hik; rw [hiun] at hl; cases hl
          · rw [getD_set_ne true hik, hl] at hu; cases hu
      unfold pairF at hpair
      simp only [Bool.and_eq_true, Bool.or_eq_true, decide_eq_true_eq, beq_iff_eq] at hpair
      obtain ⟨hap, hcl⟩ := hpair
      have H' : opS P ops S i (fun a' w' => opS P ops S j (anyS P ops S G fuel ((listed.setIfInBounds i true).setIfInBounds j true)) a' w') a w :=
        opS_mono (fun a' w' _ hh => hh.2 j (ready_mono hj hji)) H
      have H'' : opS P ops S j (fun a' w' => opS P ops S i (anyS P ops S G fuel ((listed.setIfInBounds i true).setIfInBounds j true)) a' w') a w := by
        rcases hcl with (hci | hcj) | ⟨hci, hcj⟩
        · obtain ⟨v, hy, hK⟩ := yields_opS hoi hsi hci hgood (fun h1 => look i oi hoi h1 halli) hSw H'
          exact opS_put hoi hoj hap hsi hsj hy hK
        · have : ∃ v, YieldsS P ops S oj v a := by
            by_cases hwn : Region.wanted oj (yielded ops a.tmps) = true
            · obtain ⟨a3, w3, ⟨hS3, h3⟩, k3⟩ := wpOp_some hT0 hoi H'
              obtain ⟨g1, g2, g3⟩ := Oper.apart_spec hap
              have hs : ∀ t ∈ oj.looksAt ops, a3.tmps[t]? = a.tmps[t]? := fun t ht => k3 t fun hd => g1 t hd ht
              obtain ⟨s1, s2⟩ := look_same hs
              have hex : execOp a3.eval oj = execOp a.eval oj := execOp_congr oj hsj s2
              obtain ⟨v, hy, _⟩ := yields_opS (a' := a2) hoj hsj hcj hgood (fun h1 t ht => by rw [look j oj hoj h1 hall t ht, hs t ht]) hS3 h3
              exact ⟨v, hy.of_same hex.symm s1.symm⟩
            · exact ⟨undef, .inr ⟨by simpa using hwn, rfl⟩⟩
          obtain ⟨v, hy⟩ := this
          exact hy.opS hoj hSw (opS_shift hoi hoj hap hsi hsj hy H')
        · have ci : opCls P oi.op = 2 := by unfold clsF at hci; split at hci; · cases hci
                                            · exact hci
          have cj : opCls P oj.op = 2 := by unfold clsF at hcj; split at hcj; · cases hcj
                                            · exact hcj
          exact opS_reads hoi hoj hap hsi hsj hSw ci cj H'
      refine opS_mono (fun a' w' hS' hh => ih (listed.setIfInBounds j true) a' w' hS' (hclo.set hj) hfree' (ready_mono hr (Ne.symm hji)) ?_) H''
      rw [Array.setIfInBounds_comm _ _ hji]
      exact hh

theorem freeF_spec {listed : Array Bool} {i : Nat} {oi : Oper} (hi : ops[i]? = some oi) (h : freeF P ops F listed i = true) :
    ∀ j oj, ops[j]? = some oj → j ≠ i → listed.getD j true = false → ¬ Late ops i oj → pairF P ops F i j oi oj = true := by
  intro j oj hj hji hun hno
  unfold freeF at h
  simp only [hi] at h
  have hlt : j < ops.size := (Array.getElem?_eq_some_iff.1 hj).1
  have h2 := List.all_eq_true.1 h j (by simpa using hlt)
  rw [hun] at h2
  simp only [hj, Bool.or_false, Bool.or_eq_true, beq_iff_eq] at h2
  rcases h2 with h2 | h2 | h2
  · exact (hji h2).elim
  · exact (hno (behind_spec _ _ (fun j => by simp) (fun j oj _ h => by simp at h) j oj hj h2)).elim
  · exact h2

/-- The text's list, S behind each operation. -/
def textS (P : Program) (ops : Array Oper) (S : World → Prop) (G : Act → World → Prop) : Nat → Nat → Act → World → Prop
  | 0, _ => G
  | n + 1, k => opS P ops S k (textS P ops S G n (k + 1))

theorem anyS_text (hG : ∀ a w, G a w → Good P ops F S a) (hset : settledF P ops F = true)
    (hsel : ∀ (j : Nat) (o : Oper) cs b, ops[j]? = some o → o.op ≠ .select cs b) : ∀ (n k : Nat) (listed : Array Bool) (a : Act) (w : World), S w → k + n = ops.size → Closed ops listed →
    fromF P ops F n k listed = true → textS P ops S G n k a w → anyS P ops S G n listed a w
  | 0, _, _, _, _, _, _, _, hB, h => ⟨by simpa [fromF] using hB, h⟩
  | n + 1, k, listed, a, w, hS, hk, hc, hB, h => by
    have hlt : k < ops.size := by omega
    have h0 : ops[k]? = some ops[k] := Array.getElem?_eq_getElem hlt
    simp only [fromF, Bool.and_eq_true] at hB
    obtain ⟨⟨hr, hf⟩, hB'⟩ := hB
    refine anyS_first hG hset hsel h0 n listed a w hS hc (freeF_spec h0 hf) (by simpa using hr) ?_
    exact opS_mono (fun a' w' hS' hh => anyS_text hG hset hsel n (k + 1) _ a' w' hS' (by omega) (hc.set (by simpa using hr)) hB' hh) h

end
end Go.Txt

namespace Go.Txt

section
variable {P : Program} {ops : Array Oper} {F : List Nat} {S : World → Prop} {G : Act → World → Prop}

theorem segT (K : Act → World → Prop) : ∀ e a w, SegPost S K e a w → e = .normal := fun _ _ _ h => h.1

theorem wpList_op {T : Exit → Act → World → Prop} {k : Nat} {o : Oper} {l : List Oper} (h0 : ops[k]? = some o) {a : Act} {w : World} (h : wpList P ops T (o :: l) a w) : wpOp P ops T k (wpList P ops T l) a w := by
  unfold wpOp; simp only [h0]; exact h

theorem wpList_some {K : Act → World → Prop} : ∀ (l : List Oper) (k : Nat) (a : Act) (w : World), (∀ j, j < l.length → l[j]? = ops[k + j]?) → wpList P ops (SegPost S K) l a w →
    ∃ a' w', S w' ∧ K a' w' ∧ ∀ t, (∀ j o, ops[j]? = some o → k ≤ j → j < k + l.length → o.dst ≠ some t) → a'.tmps[t]? = a.tmps[t]?
  | [], _, a, w, _, h => ⟨a, w, h.2.1, h.2.2, fun _ _ => rfl⟩
  | o :: l, k, a, w, hl, h => by
    have h0 : ops[k]? = some o := by simpa using (hl 0 (by simp)).symm
    obtain ⟨a1, w1, h1, k1⟩ := wpOp_some (segT K) h0 (wpList_op h0 h)
    obtain ⟨a2, w2, hS, hK, k2⟩ := wpList_some l (k + 1) a1 w1 (fun j hj => by have := hl (j + 1) (by simpa using hj); simpa [Nat.add_assoc, Nat.add_comm 1 j] using this) h1
    refine ⟨a2, w2, hS, hK, fun t ht => ?_⟩
    rw [k2 t fun j o' hj h3 h4 => ht j o' hj (by omega) (by simp; omega), k1 t (ht k o h0 (Nat.le_refl _) (by simp))]

theorem segs_some : ∀ (ss : List (List Oper)) (k : Nat) (a : Act) (w : World), (∀ j, j < ss.flatten.length → ss.flatten[j]? = ops[k + j]?) → wpSegs P ops S G ss a w →
    ∃ a' w', G a' w' ∧ ∀ t, (∀ j o, ops[j]? = some o → k ≤ j → o.dst ≠ some t) → a'.tmps[t]? = a.tmps[t]?
  | [], _, a, w, _, h => ⟨a, w, h, fun _ _ => rfl⟩
  | s :: ss, k, a, w, hl, h => by
    have hs : ∀ j, j < s.length → s[j]? = ops[k + j]? := fun j hj => by
      rw [← hl j (by rw [List.flatten_cons, List.length_append]; omega)]; simp only [List.flatten_cons]; rw [List.getElem?_append_left hj]
    obtain ⟨a1, w1, _, h1, k1⟩ := wpList_some s k a w hs h
    obtain ⟨a2, w2, h2, k2⟩ := segs_some ss (k + s.length) a1 w1 (fun j hj => by
      have := hl (s.length + j) (by rw [List.flatten_cons, List.length_append]; omega)
      simp only [List.flatten_cons] at this
      rw [List.getElem?_append_right (by omega)] at this
      simpa [Nat.add_assoc] using this) h1
    exact ⟨a2, w2, h2, fun t ht => by rw [k2 t fun j o hj h3 => ht j o hj (by omega), k1 t fun j o hj h3 _ => ht j o hj h3]⟩

/-- Only the last operation of a part acts. -/
def segOk (P : Program) (ss : List (List Oper)) : Prop := ∀ s ∈ ss, ∀ i o, i + 1 < s.length → s[i]? = some o → opCls P o.op ≠ 3

theorem wpOp_same {T : Exit → Act → World → Prop} (hT : ∀ e a w, T e a w → e = .normal) {k : Nat} {o : Oper} (h0 : ops[k]? = some o) {K : Act → World → Prop} {a : Act} {w : World}
    (hs : Region.wanted o (yielded ops a.tmps) = true → ∀ r w1, (execOp a.eval o).run P w = .ok r w1 → w1 = w ∧ ∃ v, r = .value v)
    (h : wpOp P ops T k K a w) : wpOp P ops T0 k (fun a' w' => w' = w ∧ K a' w') a w := by
  unfold wpOp at *
  simp only [h0] at *
  split
  · rename_i hw
    rw [if_pos hw] at h
    rcases h with h | ⟨_, hl⟩
    case inr => exact (not_lets hT hl).elim
    refine .inl ?_
    unfold Oper.wp at *
    cases hr : (execOp a.eval o).run P w with
    | ok n w' =>
      obtain ⟨rfl, v, rfl⟩ := hs hw _ _ hr
      rw [hr] at h
      first | exact ⟨rfl, h⟩ | exact ⟨trivial, h⟩
    | halt x w' =>
      rw [hr] at h
      cases x <;> simp only [Oper.upon] at h ⊢
      case panic u => have := hT _ _ _ h; cases this
  · rename_i hw
    rw [if_neg hw] at h
    first | exact ⟨rfl, h⟩ | exact ⟨trivial, h⟩

theorem wpOp_T0 {T : Exit → Act → World → Prop} (hT : ∀ e a w, T e a w → e = .normal) {k : Nat} {K : Act → World → Prop} {a : Act} {w : World} (h : wpOp P ops T k K a w) : wpOp P ops T0 k K a w := by
  unfold wpOp at *
  split
  · rename_i ho; simp only [ho] at h; exact h
  · rename_i o ho
    simp only [ho] at h
    split
    · rename_i hw
      simp only [hw, if_true] at h
      rcases h with h | ⟨_, hl⟩
      case inr => exact (not_lets hT hl).elim
      refine .inl ?_
      unfold Oper.wp at h ⊢
      generalize (execOp a.eval o).run P w = r at *
      cases r with
      | ok n w' =>
        cases n <;> simp only [Oper.upon] at h ⊢ <;> first
          | exact h
          | exact Calls.mono h fun e w'' he => by
              cases e with
              | returned u => exact he
              | panicked c => have := hT _ _ _ he; cases this
              | outgrown => exact (not_lets hT he).elim
      | halt x w' =>
        cases x <;> simp only [Oper.upon] at h ⊢
        case panic u => have := hT _ _ _ h; cases this
    · rename_i hw; simp only [hw] at h; exact h

theorem textS_of (hG : ∀ a w, G a w → Good P ops F S a) (hset : settledF P ops F = true) (hdep : ∀ (j : Nat) (o : Oper), ops[j]? = some o → ∀ e ∈ o.after, Region.binds .any e = true → e.on < j)
    (hsel : ∀ (j : Nat) (o : Oper) cs b, ops[j]? = some o → o.op ≠ .select cs b) : ∀ (ss : List (List Oper)) (s : List Oper) (k : Nat) (a : Act) (w : World), S w → segOk P (s :: ss) →
    (∀ j, (s ++ ss.flatten)[j]? = ops[k + j]?) → wpList P ops (SegPost S (wpSegs P ops S G ss)) s a w → textS P ops S G (s ++ ss.flatten).length k a w := by
  intro ss
  induction ss with
  | nil =>
    intro s
    induction s with
    | nil => intro k a w _ _ _ h; exact h.2.2
    | cons o l ih =>
      intro k a w hS hok hl h
      have h0 : ops[k]? = some o := by simpa using (hl 0).symm
      have hl' : ∀ j, (l ++ ([] : List (List Oper)).flatten)[j]? = ops[k + 1 + j]? := fun j => by have := hl (j + 1); simpa [Nat.add_assoc, Nat.add_comm 1 j] using this
      have hok' : segOk P (l :: []) := fun s hs i o' hi ho => by
        simp at hs; subst hs
        exact hok (o :: s) (by simp) (i + 1) o' (by simpa using hi) (by simpa using ho)
      have hw := wpList_op h0 h
      show opS P ops S k (textS P ops S G (l ++ ([] : List (List Oper)).flatten).length (k + 1)) a w
      cases l with
      | nil => exact wpOp_mono (fun a' w' hh => ⟨hh.2.1, hh.2.2⟩) (wpOp_T0 (segT _) hw)
      | cons o2 l2 =>
        have hc3 : opCls P o.op ≠ 3 := hok (o :: o2 :: l2) (by simp) 0 o (by simp) rfl
        have hlen : ∀ j, j < (o :: o2 :: l2).length → (o :: o2 :: l2)[j]? = ops[k + j]? := fun j _ => by have := hl j; simpa using this
        obtain ⟨a2, w2, _, hGa, k2⟩ := wpList_some _ k a w hlen h
        refine wpOp_mono (fun a' w' hh => ⟨by rw [hh.1]; exact hS, ih (k + 1) a' w' (by rw [hh.1]; exact hS) hok' hl' hh.2⟩) (wpOp_same (segT _) h0 (fun hwn r w1 hr => ?_) hw)
        by_cases hc : clsF P F k o ≤ 1
        · have := yields_end h0 (fun cs b => hsel k o cs b h0) hc (hG _ _ hGa) (fun h1 t ht => k2 t fun j o' hj h3 _ hd => by
            obtain ⟨e, he, hb, rfl⟩ := (settledF_spec hset h0 h1 hj hd).1 ht
            have := hdep k o h0 e he hb
            omega) hS hwn hr
          exact ⟨this.1, this.2.choose, this.2.choose_spec.1⟩
        · obtain ⟨dst, op, t, pos, af, g⟩ := o
          have h2 : opCls P op = 2 := by
            unfold clsF at hc
            split at hc
            · omega
            · have : opCls P op ≤ 3 := by
                unfold opCls; repeat' split
                all_goals omega
              dsimp only at hc hc3
              omega
          exact peeks2 h2 a.eval dst t pos af g w r w1 hr
  | cons s' ss ihs =>
    intro s
    induction s with
    | nil =>
      intro k a w hS hok hl h
      exact ihs s' k a w h.2.1 (fun s hs => hok s (List.mem_cons_of_mem _ hs)) (fun j => by have := hl j; simpa using this) h.2.2
    | cons o l ih =>
      intro k a w hS hok hl h
      have h0 : ops[k]? = some o := by simpa using (hl 0).symm
      have hl' : ∀ j, (l ++ (s' :: ss).flatten)[j]? = ops[k + 1 + j]? := fun j => by have := hl (j + 1); simpa [Nat.add_assoc, Nat.add_comm 1 j] using this
      have hok' : segOk P (l :: s' :: ss) := fun s hs i o' hi ho => by
        rcases List.mem_cons.1 hs with rfl | hs
        · exact hok (o :: s) (by simp) (i + 1) o' (by simpa using hi) (by simpa using ho)
        · exact hok s (List.mem_cons_of_mem _ hs) i o' hi ho
      have hw := wpList_op h0 h
      show opS P ops S k (textS P ops S G (l ++ (s' :: ss).flatten).length (k + 1)) a w
      cases l with
      | nil => exact wpOp_mono (fun a' w' hh => ⟨hh.2.1, ih (k + 1) a' w' hh.2.1 hok' hl' hh⟩) (wpOp_T0 (segT _) hw)
      | cons o2 l2 =>
        have hc3 : opCls P o.op ≠ 3 := hok (o :: o2 :: l2) (by simp) 0 o (by simp) rfl
        have hlen : ∀ j, j < (o :: o2 :: l2).length → (o :: o2 :: l2)[j]? = ops[k + j]? := fun j hj => by have := hl j; rw [List.getElem?_append_left hj] at this; exact this
        obtain ⟨a2, w2, _, hK2, k2⟩ := wpList_some _ k a w hlen h
        obtain ⟨a3, w3, hGa, k3⟩ := segs_some (s' :: ss) (k + (o :: o2 :: l2).length) a2 w2 (fun j _ => by
          have := hl ((o :: o2 :: l2).length + j)
          rw [List.getElem?_append_right (by omega), Nat.add_sub_cancel_left, ← Nat.add_assoc] at this
          exact this) hK2
        refine wpOp_mono (fun a' w' hh => ⟨by rw [hh.1]; exact hS, ih (k + 1) a' w' (by rw [hh.1]; exact hS) hok' hl' hh.2⟩) (wpOp_same (segT _) h0 (fun hwn r w1 hr => ?_) hw)
        by_cases hc : clsF P F k o ≤ 1
        · have nw : clsF P F k o = 1 → ∀ t ∈ o.looksAt ops, ∀ j o', ops[j]? = some o' → k ≤ j → o'.dst ≠ some t := fun h1 t ht j o' hj h3 hd => by
            obtain ⟨e, he, hb, rfl⟩ := (settledF_spec hset h0 h1 hj hd).1 ht
            have := hdep k o h0 e he hb
            omega
          have := yields_end h0 (fun cs b => hsel k o cs b h0) hc (hG _ _ hGa) (fun h1 t ht => by
            rw [k3 t fun j o' hj h3 => nw h1 t ht j o' hj (by omega), k2 t fun j o' hj h3 _ => nw h1 t ht j o' hj h3]) hS hwn hr
          exact ⟨this.1, this.2.choose, this.2.choose_spec.1⟩
        · obtain ⟨dst, op, t, pos, af, g⟩ := o
          have h2 : opCls P op = 2 := by
            unfold clsF at hc
            split at hc
            · omega
            · have : opCls P op ≤ 3 := by
                unfold opCls; repeat' split
                all_goals omega
              dsimp only at hc hc3
              omega
          exact peeks2 h2 a.eval dst t pos af g w r w1 hr

def depB (ops : Array Oper) : Bool := (List.range ops.size).all fun j => match ops[j]? with
  | none => true
  | some o => o.after.toList.all fun e => !Region.binds .any e || decide (e.on < j)

theorem depB_spec (h : depB ops = true) : ∀ (j : Nat) (o : Oper), ops[j]? = some o → ∀ e ∈ o.after, Region.binds .any e = true → e.on < j := by
  intro j o hj e he hb
  have hjl : j < ops.size := (Array.getElem?_eq_some_iff.1 hj).1
  have h1 := List.all_eq_true.1 h j (by simpa using hjl)
  simp only [hj] at h1
  have h2 := List.all_eq_true.1 h1 e (by simpa using he)
  rw [hb] at h2
  simpa using h2

theorem parts_ne (l : List Oper) : parts P l ≠ [] := by
  cases l with
  | nil => simp [parts]
  | cons o l =>
    unfold parts
    split
    · simp
    · split <;> simp

theorem parts_flatten (l : List Oper) : (parts P l).flatten = l := by
  induction l with
  | nil => simp [parts]
  | cons o l ih =>
    unfold parts
    split
    · rename_i h; exact absurd h (parts_ne l)
    · rename_i p ps h
      rw [h] at ih
      split <;> simp at ih ⊢ <;> exact ih

theorem parts_ok (l : List Oper) : segOk P (parts P l) := by
  induction l with
  | nil => intro s hs i o hi; simp [parts] at hs; subst hs; simp at hi
  | cons o l ih =>
    unfold parts
    split
    · intro s hs i o' hi; simp at hs; subst hs; simp at hi
    · rename_i p ps h
      rw [h] at ih
      split
      · intro s hs i o' hi ho
        rcases List.mem_cons.1 hs with rfl | hs
        · simp at hi
        · exact ih s hs i o' hi ho
      · rename_i hc
        intro s hs i o' hi ho
        rcases List.mem_cons.1 hs with rfl | hs
        · cases i with
          | zero => simp at ho; subst ho; exact hc
          | succ i => exact ih p (by simp) i o' (by simpa using hi) (by simpa using ho)
        · exact ih s (List.mem_cons_of_mem _ hs) i o' hi ho

theorem segs_cons {s : List Oper} {ss : List (List Oper)} {a : Act} {w : World} (h : wpList P ops (SegPost S (wpSegs P ops S G ss)) s a w) : wpSegs P ops S G (s :: ss) a w := h
theorem segs_nil {a : Act} {w : World} (h : G a w) : wpSegs P ops S G [] a w := h

def checkF (P : Program) (ops : Array Oper) (F : List Nat) : Bool := textF P ops F && depB ops

/-- What is asked at the end. -/
def EndPost (P : Program) (ops : Array Oper) (F : List Nat) (S : World → Prop) (Q : Exit → Act → World → Prop) (a : Act) (w : World) : Prop := Good P ops F S a ∧ Q .normal a w

theorem wp_textF (F : List Nat) (S : World → Prop) {id : Nat} {Q : Exit → Act → World → Prop} {a : Act} {w : World} {l : List Oper} (ss : List (List Oper)) (hm : P.follows .mixedOrders = true) (hB : checkF P l.toArray F = true)
    (hss : parts P l = ss) (hS : S w.drew) (h : wpSegs P l.toArray S (EndPost P l.toArray F S Q) ss a w.drew) : (Code.region id l.toArray true).wp P Q a w := by
  simp only [checkF, textF, Bool.and_eq_true] at hB
  obtain ⟨⟨⟨hns, hset⟩, hB⟩, hdep⟩ := hB
  have hG : ∀ a w, EndPost P l.toArray F S Q a w → Good P l.toArray F S a := fun _ _ h => h.1
  have hsel := Region.noSelect_spec hns
  have h1 : textS P l.toArray S (EndPost P l.toArray F S Q) l.length 0 a w.drew := by
    subst hss
    have hpn := parts_ne (P := P) l
    have hpf := parts_flatten (P := P) l
    have hpo := parts_ok (P := P) l
    cases hp : parts P l with
    | nil => exact absurd hp hpn
    | cons s ss =>
      rw [hp] at h hpf hpo
      have := textS_of hG hset (depB_spec hdep) hsel ss s 0 a w.drew hS hpo (fun j => by
        have : s ++ ss.flatten = l := by simpa using hpf
        rw [this]; simp) h
      have e : s ++ ss.flatten = l := by simpa using hpf
      rw [e] at this
      exact this
  have h2 := anyS_text hG hset hsel l.length 0 (Array.replicate l.toArray.size false) a w.drew hS (by simp) (Closed.start _) (by simpa using hB) h1
  refine wp_region_any hm ?_
  have mono : ∀ (fuel : Nat) (listed : Array Bool) (a : Act) (w : World), anyS P l.toArray S (EndPost P l.toArray F S Q) fuel listed a w → wpAny P .any l.toArray Q fuel listed a w := by
    intro fuel
    induction fuel with
    | zero => exact fun listed a w h => ⟨h.1, h.2.2⟩
    | succ fuel ih =>
      intro listed a w h
      refine ⟨fun h0 => (h.1 h0).2, fun i hi => ?_⟩
      have h2 : wpOp P l.toArray T0 i (wpAny P .any l.toArray Q fuel (listed.setIfInBounds i true)) a w := wpOp_mono (fun a' w' hh => ih _ a' w' hh.2) (h.2 i hi)
      unfold wpOp at h2 ⊢
      split
      · rename_i ho; simp only [ho] at h2; exact h2
      · rename_i o ho
        simp only [ho] at h2
        split
        · rename_i hw
          simp only [hw, if_true] at h2
          rcases h2 with h2 | ⟨_, hl⟩
          case inr => exact (not_lets hT0 hl).elim
          refine .inl ?_
          unfold Oper.wp at h2 ⊢
          generalize (execOp a.eval o).run P w = r at *
          cases r with
          | ok n w' =>
            cases n <;> simp only [Oper.upon] at h2 ⊢ <;> first
              | exact h2
              | exact Calls.mono h2 fun e w'' he => by
                  cases e with
                  | returned u => exact he
                  | panicked c => exact he.elim
                  | outgrown => exact (not_lets hT0 he).elim
          | halt x w' =>
            cases x <;> simp only [Oper.upon] at h2 ⊢
            case panic u => exact h2.elim
        · rename_i hw; simp only [hw] at h2; exact h2
  have := mono _ _ _ _ h2
  simpa using this

end
end Go.Txt

namespace Go.Mem
open Go.RowKit

section
variable {P : Program} {u : World} {a : Act} {o : Oper} {t e : TypeId} {n : Nat}

theorem exec_load (T : RowT P t n) (x : Operand) (ho : o.op = .load t x) {g : Nat} (hx : a.eval x = .pointer (some ⟨g, 0, none⟩)) {bt : TypeId} {cs : Array Value} (hb : Blk u g bt cs) (hn : cs.size = n) :
    (execOp a.eval o).run P u = .ok (.value (.agg cs)) u := by
  obtain ⟨⟨d, hu, hd⟩, hs⟩ := T
  have := run_loadVar_row (P := P) u g bt t cs (0, 0) d hb hu (by cases d <;> simp_all) (by rw [hs, hn])
  simp [execOp, ho, hx, Instr.loadAt, Instr.sureAddr, this]

theorem wp_loadr {w : World} {C : Act → World → Prop} {R : Exit → Act → World → Prop} (T : RowT P t n) (x : Operand) (ho : o.op = .load t x) {g : Nat} (hx : a.eval x = .pointer (some ⟨g, 0, none⟩)) {bt : TypeId} {cs : Array Value} (hb : Blk w g bt cs) (hn : cs.size = n)
    (h : C (a.put o.dst (.agg cs)) w) : o.wp P a w C R := by
  obtain ⟨⟨d, hu, hd⟩, hs⟩ := T
  exact wp_load_row t x ho g hx bt cs (0, 0) _ hb hu (by cases d <;> simp_all) (by rw [hs, hn]) h

theorem exec_eql_ab (T : ArrT P t e n) (he : P.underlying e = some (.int .u8)) (hsz : (P.info? e).map (·.size) = some 1) (hgd : P.eqGuardType P.depth t = false) (x y : Operand) {t' : TypeId} (ho : o.op = .binOp .eql t x y t') {xs ys : List UInt8} (hx : a.eval x = ab xs) (hy : a.eval y = ab ys) (hxl : xs.length = n) (hyl : ys.length = n) :
    (execOp a.eval o).run P u = .ok (.value (.bool (xs == ys))) u := by
  have h1 := run_eqIn_ab T he hsz xs ys hxl hyl u
  have h2 := run_eqGuard_agg (P := P) u .eql t x y (bv xs).toArray (bv ys).toArray hgd
  simp [execOp, ho, hx, hy, binOp, Op.equal, Op.maxDepth, h1, h2]
theorem exec_neq_ab (T : ArrT P t e n) (he : P.underlying e = some (.int .u8)) (hsz : (P.info? e).map (·.size) = some 1) (hgd : P.eqGuardType P.depth t = false) (x y : Operand) {t' : TypeId} (ho : o.op = .binOp .neq t x y t') {xs ys : List UInt8} (hx : a.eval x = ab xs) (hy : a.eval y = ab ys) (hxl : xs.length = n) (hyl : ys.length = n) :
    (execOp a.eval o).run P u = .ok (.value (.bool (!(xs == ys)))) u := by
  have h1 := run_eqIn_ab T he hsz xs ys hxl hyl u
  have h2 := run_eqGuard_agg (P := P) u .neq t x y (bv xs).toArray (bv ys).toArray hgd
  simp [execOp, ho, hx, hy, binOp, Op.equal, Op.maxDepth, h1, h2]

end
end Go.Mem

namespace Go.Txt

section
variable {P : Program} {ops : Array Oper} {F : List Nat} {S : World → Prop} {G : Act → World → Prop}

def forceN {α : Type} (t : Nat) (f : Nat → α) : α := match t with | 0 => f 0 | n + 1 => f (n + 1)
theorem forceN_eq {α : Type} (t : Nat) (f : Nat → α) : forceN t f = f t := by cases t <;> rfl

def maskStep (j : Nat) (acc : List Nat) (m : Nat) (e : Edge) : Nat := if Region.binds .any e then m ||| (1 <<< e.on) ||| acc.getD (j - 1 - e.on) 0 else m
def maskOf (j : Nat) (o : Oper) (acc : List Nat) : Nat := o.after.toList.foldl (maskStep j acc) 0
def rowsG : Nat → List Oper → List Nat → (List Nat → Bool) → Bool
  | _, [], acc, k => k acc
  | j, o :: l, acc, k => forceN (maskOf j o acc) fun m => rowsG (j + 1) l (m :: acc) k
def pairsG (P : Program) (ops : Array Oper) (F : List Nat) (acc : List Nat) : Bool := (List.range ops.size).all fun j => (List.range j).all fun i => (acc.getD (ops.size - 1 - j) 0).testBit i ||
  match ops[i]?, ops[j]? with | some x, some y => pairF P ops F i j x y | _, _ => true
def checkG (P : Program) (ops : Array Oper) (F : List Nat) : Bool := Region.noSelect ops && settledF P ops F && depB ops && rowsG 0 ops.toList [] (pairsG P ops F)

theorem mask_bit {j i : Nat} {acc : List Nat} : ∀ (l : List Edge) (m : Nat), (l.foldl (maskStep j acc) m).testBit i = true → m.testBit i = true ∨ ∃ e ∈ l, Region.binds .any e = true ∧ (e.on = i ∨ (acc.getD (j - 1 - e.on) 0).testBit i = true)
  | [], m, h => .inl h
  | e :: l, m, h => by
    rcases mask_bit l _ h with h | ⟨e', he, hb, hh⟩
    · unfold maskStep at h
      split at h
      · rename_i hb
        simp only [Nat.testBit_or, Bool.or_eq_true, Nat.one_shiftLeft, Nat.testBit_two_pow, decide_eq_true_eq] at h
        rcases h with (h | h) | h
        · exact .inl h
        · exact .inr ⟨e, by simp, hb, .inl h⟩
        · exact .inr ⟨e, by simp, hb, .inr h⟩
      · exact .inl h
    · exact .inr ⟨e', by simp [he], hb, hh⟩

def MaskInv (ops : Array Oper) (j : Nat) (acc : List Nat) : Prop := acc.length = j ∧ ∀ e, e < j → ∀ i oe, ops[e]? = some oe → (acc.getD (j - 1 - e) 0).testBit i = true → Late ops i oe

theorem rowsG_spec (hdep : depB ops = true) {k : List Nat → Bool} : ∀ (l : List Oper) (j : Nat) (acc : List Nat), (∀ x, l[x]? = ops[j + x]?) → MaskInv ops j acc → rowsG j l acc k = true → ∃ acc', MaskInv ops (j + l.length) acc' ∧ k acc' = true
  | [], j, acc, _, h, hr => ⟨acc, by simpa using h, hr⟩
  | o :: l, j, acc, hl, h, hr => by
    unfold rowsG at hr
    rw [forceN_eq] at hr
    have ho : ops[j]? = some o := by simpa using (hl 0).symm
    have := rowsG_spec hdep l (j + 1) (maskOf j o acc :: acc) (fun x => by have := hl (x + 1); simpa [Nat.add_assoc, Nat.add_comm 1 x] using this) ⟨by simp [h.1], fun e he i oe hoe hb => ?_⟩ hr
    · simpa [Nat.add_assoc, Nat.add_comm 1] using this
    · rcases Nat.lt_or_ge e j with hlt | hge
      · rw [show j + 1 - 1 - e = (j - 1 - e) + 1 from by omega, List.getD_cons_succ] at hb
        exact h.2 e hlt i oe hoe hb
      · obtain rfl : e = j := by omega
        rw [ho] at hoe; cases hoe
        rw [show e + 1 - 1 - e = 0 from by omega, List.getD_cons_zero] at hb
        rcases mask_bit _ _ hb with hb | ⟨e1, he1, hb1, hh⟩
        · simp at hb
        · intro listed hc hi
          refine ⟨e1, by simpa using he1, hb1, ?_⟩
          rcases hh with rfl | hh
          · exact hi
          · have hlt := depB_spec hdep e o ho e1 (by simpa using he1) hb1
            have hle : e < ops.size := (Array.getElem?_eq_some_iff.1 ho).1
            have hoe : ops[e1.on]? = some ops[e1.on] := Array.getElem?_eq_getElem (by omega)
            obtain ⟨e2, he2, hb3, hg2⟩ := h.2 e1.on hlt i _ hoe hh listed hc hi
            cases hx : listed.getD e1.on true with
            | false => rfl
            | true => rw [hc e1.on _ hoe hx e2 he2 hb3] at hg2; cases hg2

theorem pairsG_spec {acc : List Nat} (h : MaskInv ops ops.size acc) (hp : pairsG P ops F acc = true) {i j : Nat} {oi oj : Oper} (hij : i < j) (hi : ops[i]? = some oi) (hj : ops[j]? = some oj) (hn : ¬ Late ops i oj) : pairF P ops F i j oi oj = true := by
  have hlt : j < ops.size := (Array.getElem?_eq_some_iff.1 hj).1
  have := List.all_eq_true.1 (List.all_eq_true.1 hp j (by simpa using hlt)) i (by simpa using hij)
  simp only [hi, hj, Bool.or_eq_true] at this
  rcases this with h1 | h1
  · exact (hn (h.2 j hlt i oj hj h1)).elim
  · exact h1

theorem anyS_textG (hG : ∀ a w, G a w → Good P ops F S a) (hset : settledF P ops F = true) (hdep : depB ops = true)
    (hpair : ∀ i j oi oj, i < j → ops[i]? = some oi → ops[j]? = some oj → ¬ Late ops i oj → pairF P ops F i j oi oj = true)
    (hsel : ∀ (j : Nat) (o : Oper) cs b, ops[j]? = some o → o.op ≠ .select cs b) : ∀ (n k : Nat) (listed : Array Bool) (a : Act) (w : World), S w → k + n = ops.size → listed.size = ops.size → (∀ j, j < ops.size → listed.getD j true = decide (j < k)) → Closed ops listed →
    textS P ops S G n k a w → anyS P ops S G n listed a w
  | 0, k, listed, _, _, _, hk, hs, hl, _, h => by
    refine ⟨?_, h⟩
    cases hr : Region.ready .any ops listed with
    | nil => rfl
    | cons i rs =>
      exfalso
      have hi : i ∈ Region.ready .any ops listed := by rw [hr]; simp
      obtain ⟨hun, oi, hoi, _⟩ := mem_ready.1 hi
      have hlt : i < ops.size := (Array.getElem?_eq_some_iff.1 hoi).1
      rw [hl i hlt] at hun
      simp at hun
      omega
  | n + 1, k, listed, a, w, hS, hk, hs, hl, hc, h => by
    have hlt : k < ops.size := by omega
    have h0 : ops[k]? = some ops[k] := Array.getElem?_eq_getElem hlt
    have hr : k ∈ Region.ready .any ops listed := by
      rw [mem_ready]
      refine ⟨by rw [hl k hlt]; simp, _, h0, fun e he hb => ?_⟩
      have h1 := depB_spec hdep k _ h0 e he hb
      have h2 := hl e.on (by omega)
      have h3 : e.on < listed.size := by omega
      simp [Array.getD, h3] at h2 ⊢
      rw [h2]; exact decide_eq_true h1
    have hfree : ∀ j oj, ops[j]? = some oj → j ≠ k → listed.getD j true = false → ¬ Late ops k oj → pairF P ops F k j ops[k] oj = true := by
      intro j oj hj hne hun hno
      have hjl : j < ops.size := (Array.getElem?_eq_some_iff.1 hj).1
      rw [hl j hjl] at hun
      have : k < j := by
        simp at hun
        omega
      exact hpair k j _ oj this h0 hj hno
    refine anyS_first hG hset hsel h0 n listed a w hS hc hfree hr ?_
    refine opS_mono (fun a' w' hS' hh => anyS_textG hG hset hdep hpair hsel n (k + 1) _ a' w' hS' (by omega) (by simpa using hs) (fun j hj => ?_) (hc.set hr) hh) h
    have h3 : j < listed.size := by omega
    have h2 := hl j hj
    by_cases hjk : j = k
    · subst hjk; simp [Array.getD, h3]
    · simp [Array.getD, h3, Ne.symm hjk] at h2 ⊢
      rw [h2]
      simp; omega

theorem wp_textG (F : List Nat) (S : World → Prop) {id : Nat} {Q : Exit → Act → World → Prop} {a : Act} {w : World} {l : List Oper} (ss : List (List Oper)) (hm : P.follows .mixedOrders = true) (hB : checkG P l.toArray F = true)
    (hss : parts P l = ss) (hS : S w.drew) (h : wpSegs P l.toArray S (EndPost P l.toArray F S Q) ss a w.drew) : (Code.region id l.toArray true).wp P Q a w := by
  simp only [checkG, Bool.and_eq_true] at hB
  obtain ⟨⟨⟨hns, hset⟩, hdep⟩, hrows⟩ := hB
  obtain ⟨acc, hinv, hpr⟩ := rowsG_spec hdep l 0 [] (by simp) ⟨rfl, fun e he => by omega⟩ (by simpa using hrows)
  have hpair : ∀ i j oi oj, i < j → l.toArray[i]? = some oi → l.toArray[j]? = some oj → ¬ Late l.toArray i oj → pairF P l.toArray F i j oi oj = true :=
    fun i j oi oj hij hi hj hn => pairsG_spec (by simpa using hinv) hpr hij hi hj hn
  have hG : ∀ a w, EndPost P l.toArray F S Q a w → Good P l.toArray F S a := fun _ _ h => h.1
  have hsel := Region.noSelect_spec hns
  have h1 : textS P l.toArray S (EndPost P l.toArray F S Q) l.length 0 a w.drew := by
    subst hss
    have hpn := parts_ne (P := P) l
    have hpf := parts_flatten (P := P) l
    have hpo := parts_ok (P := P) l
    cases hp : parts P l with
    | nil => exact absurd hp hpn
    | cons s ss =>
      rw [hp] at h hpf hpo
      have := textS_of hG hset (depB_spec hdep) hsel ss s 0 a w.drew hS hpo (fun j => by
        have : s ++ ss.flatten = l := by simpa using hpf
        rw [this]; simp) h
      have e : s ++ ss.flatten = l := by simpa using hpf
      rw [e] at this
      exact this
  have h2 := anyS_textG hG hset hdep hpair hsel l.length 0 (Array.replicate l.toArray.size false) a w.drew hS (by simp) (by simp) (fun j hj => by simp at hj; simp [hj]) (Closed.start _) h1
  refine wp_region_any hm ?_
  have mono : ∀ (fuel : Nat) (listed : Array Bool) (a : Act) (w : World), anyS P l.toArray S (EndPost P l.toArray F S Q) fuel listed a w → wpAny P .any l.toArray Q fuel listed a w := by
    intro fuel
    induction fuel with
    | zero => exact fun listed a w h => ⟨h.1, h.2.2⟩
    | succ fuel ih =>
      intro listed a w h
      refine ⟨fun h0 => (h.1 h0).2, fun i hi => ?_⟩
      have h2 : wpOp P l.toArray T0 i (wpAny P .any l.toArray Q fuel (listed.setIfInBounds i true)) a w := wpOp_mono (fun a' w' hh => ih _ a' w' hh.2) (h.2 i hi)
      unfold wpOp at h2 ⊢
      split
      · rename_i ho; simp only [ho] at h2; exact h2
      · rename_i o ho
        simp only [ho] at h2
        split
        · rename_i hw
          simp only [hw, if_true] at h2
          rcases h2 with h2 | ⟨_, hl⟩
          case inr => exact (not_lets hT0 hl).elim
          refine .inl ?_
          unfold Oper.wp at h2 ⊢
          generalize (execOp a.eval o).run P w = r at *
          cases r with
          | ok n w' =>
            cases n <;> simp only [Oper.upon] at h2 ⊢ <;> first
              | exact h2
              | exact Calls.mono h2 fun e w'' he => by
                  cases e with
                  | returned u => exact he
                  | panicked c => exact he.elim
                  | outgrown => exact (not_lets hT0 he).elim
          | halt x w' =>
            cases x <;> simp only [Oper.upon] at h2 ⊢
            case panic u => exact h2.elim
        · rename_i hw; simp only [hw] at h2; exact h2
  have := mono _ _ _ _ h2
  simpa using this

end
end Go.Txt

namespace Go.Proofs.Ytkflljjcgihaoaa
open Go.RowKit Go.Mem

/-- What lies in memory. -/
structure Gat (w0 : World) (g5 g6 g7 g8 g9 g10 x0 x1 x2 x3 x4 : Nat) (u : World) : Prop where
  t0 : Blk u g5 96 (uv (prs x0)).toArray
  t1 : Blk u g6 96 (uv (prs x1)).toArray
  t2 : Blk u g7 96 (uv (prs x2)).toArray
  t3 : Blk u g8 96 (uv (prs x3)).toArray
  t4 : Blk u g9 96 (uv (prs x4)).toArray
  r : Blk u g10 27 (uv (fam 5 nought)).toArray
  k : Kept [] w0 u
theorem Gat.kept {w0 : World} {g5 g6 g7 g8 g9 g10 x0 x1 x2 x3 x4 : Nat} {u u' : World} (h : Gat w0 g5 g6 g7 g8 g9 g10 x0 x1 x2 x3 x4 u) (hk : Kept [] u u') : Gat w0 g5 g6 g7 g8 g9 g10 x0 x1 x2 x3 x4 u' :=
  ⟨h.t0.kept hk (by simp), h.t1.kept hk (by simp), h.t2.kept hk (by simp), h.t3.kept hk (by simp), h.t4.kept hk (by simp), h.r.kept hk (by simp), h.k.then0 hk⟩

set_option maxRecDepth 100000 in
set_option maxHeartbeats 1600000 in
theorem gathered_any (t : Nat → Nat) (w : World) (ht : Fit t) :
    Calls Try.prog 69 #[pr (t 0), pr (t 1), pr (t 2), pr (t 3), pr (t 4)] w fun e w' => e = .returned (el (carL (gaL t))) ∧ Kept [] w w' := by
  have hcar := Lib.hid (fun W => carried_any (gaL t) W ht.word)
  have l0 : ∀ i, i < 4 → t i < 41538374868278621028243970633760768 := fun i hi => by have := ht.lo i hi; omega
  have b0 := l0 0 (by omega); have b1 := l0 1 (by omega); have b2 := l0 2 (by omega); have b3 := l0 3 (by omega)
  have b4 : t 4 < 41538374868278621028243970633760768 := by have := ht.top; omega
  obtain ⟨R, hR⟩ : ∃ R, R = gaL t := ⟨_, rfl⟩
  rw [← hR] at hcar ⊢
  have q0 : lo51 (t 0) < 2251799813685248 ∧ lo51 (t 1) < 2251799813685248 ∧ lo51 (t 2) < 2251799813685248 ∧ lo51 (t 3) < 2251799813685248 ∧ lo51 (t 4) < 2251799813685248 := ⟨Nat.mod_lt _ (by decide), Nat.mod_lt _ (by decide), Nat.mod_lt _ (by decide), Nat.mod_lt _ (by decide), Nat.mod_lt _ (by decide)⟩
  have q1 : up51 (t 0) < 1152921504606846976 ∧ up51 (t 1) < 1152921504606846976 ∧ up51 (t 2) < 1152921504606846976 ∧ up51 (t 3) < 1152921504606846976 ∧ up51 (t 4) < 72057594037927936 := by
    have := ht.lo 0 (by omega); have := ht.lo 1 (by omega); have := ht.lo 2 (by omega); have := ht.lo 3 (by omega); have := ht.top
    unfold up51; omega
  have s0 : ((lo51 (t 0) : Nat) : Int) + 19 * ((up51 (t 4) : Nat) : Int) = ((R 0 : Nat) : Int) := by rw [hR]; show _ = ((lo51 (t 0) + 19 * up51 (t 4) : Nat) : Int); omega
  have s1 : ((lo51 (t 1) : Nat) : Int) + ((up51 (t 0) : Nat) : Int) = ((R 1 : Nat) : Int) := by rw [hR]; show _ = ((lo51 (t 1) + up51 (t 0) : Nat) : Int); omega
  have s2 : ((lo51 (t 2) : Nat) : Int) + ((up51 (t 1) : Nat) : Int) = ((R 2 : Nat) : Int) := by rw [hR]; show _ = ((lo51 (t 2) + up51 (t 1) : Nat) : Int); omega
  have s3 : ((lo51 (t 3) : Nat) : Int) + ((up51 (t 2) : Nat) : Int) = ((R 3 : Nat) : Int) := by rw [hR]; show _ = ((lo51 (t 3) + up51 (t 2) : Nat) : Int); omega
  have s4 : ((lo51 (t 4) : Nat) : Int) + ((up51 (t 3) : Nat) : Int) = ((R 4 : Nat) : Int) := by rw [hR]; show _ = ((lo51 (t 4) + up51 (t 3) : Nat) : Int); omega
  clear ht l0 hR
  obtain ⟨x0, hx0⟩ : ∃ x, x = t 0 := ⟨_, rfl⟩
  obtain ⟨x1, hx1⟩ : ∃ x, x = t 1 := ⟨_, rfl⟩
  obtain ⟨x2, hx2⟩ : ∃ x, x = t 2 := ⟨_, rfl⟩
  obtain ⟨x3, hx3⟩ : ∃ x, x = t 3 := ⟨_, rfl⟩
  obtain ⟨x4, hx4⟩ : ∃ x, x = t 4 := ⟨_, rfl⟩
  rw [← hx0] at b0 q0 q1 s0 s1 ⊢
  rw [← hx1] at b1 q0 q1 s1 s2 ⊢
  rw [← hx2] at b2 q0 q1 s2 s3 ⊢
  rw [← hx3] at b3 q0 q1 s3 s4 ⊢
  rw [← hx4] at b4 q0 q1 s4 s0 ⊢
  have o0 := Lib.hid (over_any x0 b0)
  have o1 := Lib.hid (over_any x1 b1)
  have o2 := Lib.hid (over_any x2 b2)
  have o3 := Lib.hid (over_any x3 b3)
  have o4 := Lib.hid (over_any x4 b4)
  clear b0 b1 b2 b3 b4
  have S0 := Lib.hid (And.intro s0 (And.intro s1 (And.intro s2 (And.intro s3 s4))))
  have Q0 := Lib.hid (And.intro q0 q1)
  clear hx0 hx1 hx2 hx3 hx4 s0 s1 s2 s3 s4 q0 q1
  go_enter Try.func69, Try.ntmps69
  go_wp2_with (first
    | ((with_reducible refine wpl_box (o := ⟨some 5, _, _, _, _, _⟩) (v := pr x0) rfl (.tmp 0) rfl rfl ?_); intro g5 w1 m1)
    | ((with_reducible refine wpl_box (o := ⟨some 6, _, _, _, _, _⟩) (v := pr x1) rfl (.tmp 1) rfl rfl ?_); intro g6 w2 m2)
    | ((with_reducible refine wpl_box (o := ⟨some 7, _, _, _, _, _⟩) (v := pr x2) rfl (.tmp 2) rfl rfl ?_); intro g7 w3 m3)
    | ((with_reducible refine wpl_box (o := ⟨some 8, _, _, _, _, _⟩) (v := pr x3) rfl (.tmp 3) rfl rfl ?_); intro g8 w4 m4)
    | ((with_reducible refine wpl_box (o := ⟨some 9, _, _, _, _, _⟩) (v := pr x4) rfl (.tmp 4) rfl rfl ?_); intro g9 w5 m5)
    | ((with_reducible refine wpl_new (o := ⟨some 10, _, _, _, _, _⟩) rfl rfl zeroEl ?_); intro g10 w6 m6))
  have k56 := m5.kept.then0 m6.kept
  have k46 := m4.kept.then0 k56
  have k36 := m3.kept.then0 k46
  have k26 := m2.kept.then0 k36
  have H := Lib.hid (show Gat w g5 g6 g7 g8 g9 g10 x0 x1 x2 x3 x4 w6 from ⟨m1.blk.kept k26 (by simp), m2.blk.kept k36 (by simp), m3.blk.kept k46 (by simp), m4.blk.kept k56 (by simp), m5.blk.kept m6.kept (by simp), m6.blk, m1.kept.then0 k26⟩)
  have l10 := Lib.hid (show w.heap.size ≤ g10 from Nat.le_trans ((((m1.kept.then0 m2.kept).then0 m3.kept).then0 m4.kept).then0 m5.kept).size m6.le)
  clear m1 m2 m3 m4 m5 m6 k56 k46 k36 k26
  refine Txt.wp_textG [0, 2, 4, 6, 8] (Gat w g5 g6 g7 g8 g9 g10 x0 x1 x2 x3 x4) [[_, _], [_, _], [_, _], [_, _], [_, _], [_, _, _, _, _]] (by kernel_rfl) (by kernel_rfl) rfl (H.out.kept (Kept.refl [] _).drew) (Txt.segs_cons ?_)
  have H := Lib.hid (H.out.kept (Kept.refl [] w6).drew)
  go_wp2_with (first
    | (with_reducible refine wpl_load_row (o := ⟨some 16, _, _, _, _, _⟩) structPr rfl (.tmp 5) rfl rfl H.out.t0 rfl ?_)
    | (go_at_call 81; refine (o0.out _).mono ?_; rintro e v ⟨rfl, kk⟩; have H := Lib.hid (H.out.kept kk); clear kk))
  refine ⟨rfl, H.out, Txt.segs_cons ?_⟩
  go_wp2_with (first
    | (with_reducible refine wpl_load_row (o := ⟨some 18, _, _, _, _, _⟩) structPr rfl (.tmp 6) rfl rfl H.out.t1 rfl ?_)
    | (go_at_call 81; refine (o1.out _).mono ?_; rintro e v ⟨rfl, kk⟩; have H := Lib.hid (H.out.kept kk); clear kk))
  refine ⟨rfl, H.out, Txt.segs_cons ?_⟩
  go_wp2_with (first
    | (with_reducible refine wpl_load_row (o := ⟨some 20, _, _, _, _, _⟩) structPr rfl (.tmp 7) rfl rfl H.out.t2 rfl ?_)
    | (go_at_call 81; refine (o2.out _).mono ?_; rintro e v ⟨rfl, kk⟩; have H := Lib.hid (H.out.kept kk); clear kk))
  refine ⟨rfl, H.out, Txt.segs_cons ?_⟩
  go_wp2_with (first
    | (with_reducible refine wpl_load_row (o := ⟨some 22, _, _, _, _, _⟩) structPr rfl (.tmp 8) rfl rfl H.out.t3 rfl ?_)
    | (go_at_call 81; refine (o3.out _).mono ?_; rintro e v ⟨rfl, kk⟩; have H := Lib.hid (H.out.kept kk); clear kk))
  refine ⟨rfl, H.out, Txt.segs_cons ?_⟩
  go_wp2_with (first
    | (with_reducible refine wpl_load_row (o := ⟨some 24, _, _, _, _, _⟩) structPr rfl (.tmp 9) rfl rfl H.out.t4 rfl ?_)
    | (go_at_call 81; refine (o4.out _).mono ?_; rintro e v ⟨rfl, kk⟩; have H := Lib.hid (H.out.kept kk); clear kk))
  refine ⟨rfl, H.out, Txt.segs_cons ?_⟩
  go_wp2_with fail
  refine ⟨rfl, H.out, Txt.segs_nil ⟨⟨by kernel_rfl, ?_⟩, ?_⟩⟩
  · intro j hj o ho _
    have hj2 : j = 0 ∨ j = 2 ∨ j = 4 ∨ j = 6 ∨ j = 8 := by simpa using hj
    rcases hj2 with rfl | rfl | rfl | rfl | rfl <;> cases ho
    · exact ⟨16, rfl, fun u hu => exec_load structPr (.tmp 5) rfl rfl hu.t0 rfl⟩
    · exact ⟨18, rfl, fun u hu => exec_load structPr (.tmp 6) rfl rfl hu.t1 rfl⟩
    · exact ⟨20, rfl, fun u hu => exec_load structPr (.tmp 7) rfl rfl hu.t2 rfl⟩
    · exact ⟨22, rfl, fun u hu => exec_load structPr (.tmp 8) rfl rfl hu.t3 rfl⟩
    · exact ⟨24, rfl, fun u hu => exec_load structPr (.tmp 9) rfl rfl hu.t4 rfl⟩
  obtain ⟨s0, s1, s2, s3, s4⟩ := S0.out
  obtain ⟨⟨q00, q01, q02, q03, q04⟩, q10, q11, q12, q13, q14⟩ := Q0.out
  have c0 : v.cell? ⟨g5, 1, none⟩ = some (.int .u64 (l64 x0 : Nat)) := Blk.uget (l := prs x0) H.out.t0 1 (by simp)
  have c1 : v.cell? ⟨g6, 1, none⟩ = some (.int .u64 (l64 x1 : Nat)) := Blk.uget (l := prs x1) H.out.t1 1 (by simp)
  have c2 : v.cell? ⟨g7, 1, none⟩ = some (.int .u64 (l64 x2 : Nat)) := Blk.uget (l := prs x2) H.out.t2 1 (by simp)
  have c3 : v.cell? ⟨g8, 1, none⟩ = some (.int .u64 (l64 x3 : Nat)) := Blk.uget (l := prs x3) H.out.t3 1 (by simp)
  have c4 : v.cell? ⟨g9, 1, none⟩ = some (.int .u64 (l64 x4 : Nat)) := Blk.uget (l := prs x4) H.out.t4 1 (by simp)
  have w0 := lo_word x0
  have w1 := lo_word x1
  have w2 := lo_word x2
  have w3 := lo_word x3
  have w4 := lo_word x4
  go_wp2_with (first
    | (with_reducible refine wpl_build1 (o := ⟨some 53, _, _, _, _, _⟩) rfl 0 (.tmp 52) rfl rfl (built_el R) ?_)
    | (go_at_call 74; refine (hcar.out _).mono ?_; rintro e w6 ⟨rfl, k6⟩; have H := Lib.hid (H.out.kept k6); clear k6)
    | (refine wpl_store_row structEl rfl (.tmp 10) (.tmp 54) rfl rfl rfl H.out.r rfl rfl (one_el _) ?_; intro w8 b8 k8))
  exact ret_row structEl rfl rfl b8 rfl rfl ⟨rfl, H.out.k.then1 k8 l10.out⟩
end Go.Proofs.Ytkflljjcgihaoaa

namespace Go.Proofs.Ytkflljjcgihaoaa
open Go.RowKit Go.Mem

/-- What a product, a sum answers. -/
abbrev PrC (a b s : Nat) : Prop := ∀ W, Calls Try.prog 67 #[.int .u64 a, .int .u64 b] W fun e w' => e = .returned (pr s) ∧ Kept [] W w'
abbrev PlC (x a b s : Nat) : Prop := ∀ W, Calls Try.prog 68 #[pr x, .int .u64 a, .int .u64 b] W fun e w' => e = .returned (pr s) ∧ Kept [] W w'
theorem pr_flat (x : Nat) : pr x = Value.agg #[.int .u64 (h64 x : Nat), .int .u64 (l64 x : Nat)] := rfl
abbrev GaC (T0 T1 T2 T3 T4 : Nat) (R : Nat → Nat) : Prop := ∀ W, Calls Try.prog 69 #[.agg #[.int .u64 (h64 T0 : Nat), .int .u64 (l64 T0 : Nat)], .agg #[.int .u64 (h64 T1 : Nat), .int .u64 (l64 T1 : Nat)], .agg #[.int .u64 (h64 T2 : Nat), .int .u64 (l64 T2 : Nat)], .agg #[.int .u64 (h64 T3 : Nat), .int .u64 (l64 T3 : Nat)], .agg #[.int .u64 (h64 T4 : Nat), .int .u64 (l64 T4 : Nat)]] W fun e w' => e = .returned (el R) ∧ Kept [] W w'
theorem word_lt {a b : Nat} (ha : a < 144115188075855872) (hb : b < 144115188075855872) : a * b < 20769187434139310514121985316880384 :=
  Nat.lt_of_le_of_lt (Nat.mul_le_mul (Nat.le_sub_one_of_lt ha) (Nat.le_sub_one_of_lt hb)) (by decide)
theorem chain3 {a0 b0 a1 b1 a2 b2 : Nat} (h0 : a0 < 144115188075855872 ∧ b0 < 144115188075855872) (h1 : a1 < 144115188075855872 ∧ b1 < 144115188075855872) (h2 : a2 < 144115188075855872 ∧ b2 < 144115188075855872) :
    ∃ s0 s1 s2, PrC a0 b0 s0 ∧ PlC s0 a1 b1 s1 ∧ PlC s1 a2 b2 s2 ∧ s2 = a0 * b0 + a1 * b1 + a2 * b2 := by
  have p0 := word_lt h0.1 h0.2
  have p1 := word_lt h1.1 h1.2
  have p2 := word_lt h2.1 h2.2
  exact ⟨_, _, _, fun W => product_any a0 b0 (by omega) (by omega) W, fun W => plus_any _ a1 b1 (by omega) (by omega) (by omega) W, fun W => plus_any _ a2 b2 (by omega) (by omega) (by omega) W, rfl⟩
theorem chain5 {a0 b0 a1 b1 a2 b2 a3 b3 a4 b4 : Nat} (h0 : a0 < 144115188075855872 ∧ b0 < 144115188075855872) (h1 : a1 < 144115188075855872 ∧ b1 < 144115188075855872) (h2 : a2 < 144115188075855872 ∧ b2 < 144115188075855872)
    (h3 : a3 < 144115188075855872 ∧ b3 < 144115188075855872) (h4 : a4 < 144115188075855872 ∧ b4 < 144115188075855872) :
    ∃ s0 s1 s2 s3 s4, PrC a0 b0 s0 ∧ PlC s0 a1 b1 s1 ∧ PlC s1 a2 b2 s2 ∧ PlC s2 a3 b3 s3 ∧ PlC s3 a4 b4 s4 ∧ s4 = a0 * b0 + a1 * b1 + a2 * b2 + a3 * b3 + a4 * b4 := by
  have p0 := word_lt h0.1 h0.2
  have p1 := word_lt h1.1 h1.2
  have p2 := word_lt h2.1 h2.2
  have p3 := word_lt h3.1 h3.2
  have p4 := word_lt h4.1 h4.2
  exact ⟨_, _, _, _, _, fun W => product_any a0 b0 (by omega) (by omega) W, fun W => plus_any _ a1 b1 (by omega) (by omega) (by omega) W, fun W => plus_any _ a2 b2 (by omega) (by omega) (by omega) W, fun W => plus_any _ a3 b3 (by omega) (by omega) (by omega) W, fun W => plus_any _ a4 b4 (by omega) (by omega) (by omega) W, rfl⟩

/-- Sums that lie in memory. -/
structure Sums (w0 : World) (g4 : Nat) (L : List (Nat × Nat)) (u : World) : Prop where
  r : Blk u g4 27 (uv (fam 5 nought)).toArray
  s : ∀ p ∈ L, Blk u p.1 96 (uv (prs p.2)).toArray
  k : Kept [] w0 u
  le : w0.heap.size ≤ g4
theorem Sums.kept {w0 : World} {g4 : Nat} {L : List (Nat × Nat)} {u u' : World} (h : Sums w0 g4 L u) (hk : Kept [] u u') : Sums w0 g4 L u' :=
  ⟨h.r.kept hk (by simp), fun p hp => (h.s p hp).kept hk (by simp), h.k.then0 hk, h.le⟩
theorem Sums.put {w0 : World} {g4 g T : Nat} {L : List (Nat × Nat)} {u u1 u2 : World} {t : TypeId} {cs : Array Value} (h : Sums w0 g4 L u) (m : Made u u1 g t cs) (b : Blk u2 g 96 (uv (prs T)).toArray) (k : Kept [g] u1 u2) : Sums w0 g4 ((g, T) :: L) u2 := by
  have h1 := h.kept m.kept
  have nr := m.ne h.r.lt
  refine ⟨h1.r.kept k (by simpa using nr), fun p hp => ?_, h1.k.then1 k (Nat.le_trans h.k.size m.le), h.le⟩
  rcases List.mem_cons.1 hp with rfl | hp
  · exact b
  · exact (h1.s p hp).kept k (by simpa using m.ne (h.s p hp).lt)
theorem Sums.at0 {w0 : World} {g4 g T : Nat} {L : List (Nat × Nat)} {u : World} (h : Sums w0 g4 ((g, T) :: L) u) : Blk u g 96 (uv (prs T)).toArray := h.s (g, T) (by simp)
theorem Sums.tl {w0 : World} {g4 : Nat} {p : Nat × Nat} {L : List (Nat × Nat)} {u : World} (h : Sums w0 g4 (p :: L) u) : Sums w0 g4 L u := ⟨h.r, fun q hq => h.s q (by simp [hq]), h.k, h.le⟩
end Go.Proofs.Ytkflljjcgihaoaa
