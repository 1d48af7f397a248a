/-
  Field: sums, differences, small numbers.
-/
import Derived.Test.YthmpdhegodmjjaaFe1
namespace Go.Proofs.Ythmpdhegodmjjaa
open Go.RowKit Go.Mem

/-- Limbs a little more than 51 bits. -/
def Lim (F : Nat → Nat) : Prop := ∀ i, i < 5 → F i < 4503599627370496
/-- What limbs come to. -/
def fv (F : Nat → Nat) : Nat := F 0 + 2251799813685248 * F 1 + 5070602400912917605986812821504 * F 2 + 11417981541647679048466287755595961091061972992 * F 3 + 25711008708143844408671393477458601640355247900524685364822016 * F 4
def PP : Nat := 57896044618658097711785492504343953926634992332820282019728792003956564819949
theorem PP_pos : 0 < PP := by decide +kernel
theorem carL_lim (F : Nat → Nat) (h : ∀ i, i < 5 → F i < 18446744073709551616) : Lim (carL F) := by
  intro i hi
  have h4 := h 4 (by omega)
  have hi2 := h i hi
  have hi3 := h (i - 1) (by omega)
  unfold carL loL hiL
  split <;> omega
theorem carL_val (F : Nat → Nat) : fv (carL F) + PP * hiL F 4 = fv F := by
  unfold fv
  rw [show carL F 0 = loL F 0 + 19 * hiL F 4 from rfl, show carL F 1 = loL F 1 + hiL F 0 from rfl, show carL F 2 = loL F 2 + hiL F 1 from rfl, show carL F 3 = loL F 3 + hiL F 2 from rfl, show carL F 4 = loL F 4 + hiL F 3 from rfl]
  unfold PP loL hiL
  omega
theorem carL_mod (F : Nat → Nat) : fv (carL F) % PP = fv F % PP := by
  rw [← carL_val F, Nat.add_mul_mod_self_left]

/-- What lies in memory. -/
structure Two (w0 : World) (g2 g3 g4 : Nat) (f c : Nat → Nat) (u : World) : Prop where
  a : Blk u g2 27 (uv (fam 5 f)).toArray
  b : Blk u g3 27 (uv (fam 5 c)).toArray
  r : Blk u g4 27 (uv (fam 5 nought)).toArray
  k : Kept [] w0 u
theorem Two.seta {w0 : World} {g1 g2 g3 k : Nat} {f c h : Nat → Nat} {u : World} (H : Two w0 g1 g2 g3 (mix f h k) c u) (n : Far3 w0 g1 g2 g3) : Two w0 g1 g2 g3 (mix f h (k + 1)) c (u.setCell ⟨g1, k, none⟩ (.int .u64 (h k : Nat))) :=
  have hk : Kept [g1] u (u.setCell ⟨g1, k, none⟩ (.int .u64 (h k : Nat))) := (Kept.refl [g1] u).setCell (.inl (by simp)) _
  ⟨H.a.fstep (v := fun z : Nat => Value.int .u64 (z : Int)), H.b.kept hk (by simpa using Ne.symm n.n12), H.r.kept hk (by simpa using Ne.symm n.n13), H.k.then1 hk n.l1⟩
theorem Two.drew {w0 : World} {g1 g2 g3 : Nat} {f c : Nat → Nat} {u : World} (H : Two w0 g1 g2 g3 f c u) : Two w0 g1 g2 g3 f c u.drew := ⟨H.a, H.b, H.r, H.k.drew⟩
theorem Two.kept {w0 : World} {g1 g2 g3 : Nat} {f c : Nat → Nat} {u u' : World} (H : Two w0 g1 g2 g3 f c u) (hk : Kept [] u u') : Two w0 g1 g2 g3 f c u' := ⟨H.a.kept hk (by simp), H.b.kept hk (by simp), H.r.kept hk (by simp), H.k.then0 hk⟩
theorem Two.same {w0 : World} {g1 g2 g3 : Nat} {f c f' : Nat → Nat} {u : World} (H : Two w0 g1 g2 g3 f c u) (hf : fam 5 f = fam 5 f') : Two w0 g1 g2 g3 f' c u := ⟨hf ▸ H.a, H.b, H.r, H.k⟩

def addL (F G : Nat → Nat) (i : Nat) : Nat := F i + G i
def preL (F G : Nat → Nat) (i : Nat) : Nat := F i + (9007199254740988 - G i)
def subL (F G : Nat → Nat) (i : Nat) : Nat := if i = 0 then preL F G 0 - 72 else preL F G i

set_option maxRecDepth 100000 in
set_option maxHeartbeats 1600000 in
theorem fadd_any (F G : Nat → Nat) (w : World) (hF : Lim F) (hG : Lim G) :
    Calls Try.prog 13 #[el F, el G] w fun e w' => e = .returned (el (carL (addL F G))) ∧ Kept [] w w' := by
  have hL := Lib.hid (And.intro hF hG)
  have hcar := Lib.hid (fun W => carried_any (addL F G) W (fun i hi => by have := hF i hi; have := hG i hi; unfold addL; omega))
  clear hF hG
  go_enter Try.func13, Try.ntmps13
  go_wp2_with (first
    | ((with_reducible refine wpl_box (o := ⟨some 2, _, _, _, _, _⟩) (v := el F) rfl (.tmp 0) rfl rfl ?_); intro g1 w1 m1)
    | ((with_reducible refine wpl_box (o := ⟨some 3, _, _, _, _, _⟩) (v := el G) rfl (.tmp 1) rfl rfl ?_); intro g2 w2 m2)
    | ((with_reducible refine wpl_new (o := ⟨some 4, _, _, _, _, _⟩) rfl rfl zeroEl ?_); intro g3 w3 m3))
  have N := Lib.hid (show Far3 w g1 g2 g3 from ⟨m2.ne m1.blk.lt, m3.ne (m2.kept.lt m1.blk.lt), m3.ne m2.blk.lt, m1.le, Nat.le_trans m1.kept.size m2.le, Nat.le_trans (m1.kept.then0 m2.kept).size m3.le⟩)
  have H0 := Lib.hid (show Two w g1 g2 g3 (mix F (addL F G) 0) G w3 from
    ⟨by rw [mix_zero]; exact (m1.blk.kept m2.kept (by simp)).kept m3.kept (by simp), m2.blk.kept m3.kept (by simp), m3.blk, (m1.kept.then0 m2.kept).then0 m3.kept⟩)
  clear m1 m2 m3
  go_loopg [6] 5 (fun f i wk => ∃ k : Nat, k ≤ 5 ∧ f + k = 5 ∧ i = .int .i64 k ∧ Two w g1 g2 g3 (mix F (addL F G) k) G wk)
  case atStart => exact ⟨0, Nat.zero_le _, rfl, rfl, H0.out⟩
  case round =>
    obtain ⟨k, hk, hf, rfl, hs⟩ := hrel
    have H := Lib.hid hs
    clear hs
    by_cases hlt : k < 5
    · have H1 := Lib.hid (H.out.seta N.out)
      have c1 := Blk.eget H.out.a k hlt
      rw [mix_at] at c1
      have c2 := Blk.eget H.out.b k hlt
      have z1 := H.out.a.frozen k
      have b1 := hL.out.1 k hlt
      have b2 := hL.out.2 k hlt
      have hs : ((F k : Nat) : Int) + ((G k : Nat) : Int) = ((addL F G k : Nat) : Int) := by unfold addL; omega
      go_wp2_with fail
      refine Txt.wp_text (by kernel_rfl) (by kernel_rfl) ?_
      go_wp2_with fail
      refine ⟨rfl, by kernel_rfl, ?_⟩
      go_wp2_with fail
      go_roundg (5 - (k + 1))
      case measure => omega
      case rel => exact ⟨k + 1, by omega, by omega, by go_num, H1.out.drew⟩
    · obtain rfl : k = 5 := by omega
      have H3 := Lib.hid (H.out.same (mix_full 5 F (addL F G)))
      go_wp2_with (first
        | (refine wpl_load_row structEl rfl (.tmp 2) rfl rfl H3.out.a rfl ?_)
        | (go_at_call 31; refine (hcar.out _).mono ?_; rintro e w6 ⟨rfl, k6⟩; have H4 := Lib.hid (H3.out.kept k6); clear k6)
        | (refine wpl_store_row structEl rfl (.tmp 4) (.tmp 22) rfl rfl rfl H4.out.r rfl rfl (one_el _) ?_; intro w8 b8 k8))
      exact ret_row structEl rfl rfl b8 rfl rfl ⟨rfl, H4.out.k.then1 k8 N.out.l3⟩

set_option maxRecDepth 100000 in
set_option maxHeartbeats 1600000 in
theorem fsub_any (F G : Nat → Nat) (w : World) (hF : Lim F) (hG : Lim G) :
    Calls Try.prog 16 #[el F, el G] w fun e w' => e = .returned (el (carL (subL F G))) ∧ Kept [] w w' := by
  have hL := Lib.hid (And.intro hF hG)
  have hcar := Lib.hid (fun W => carried_any (subL F G) W (fun i hi => by have := hF i hi; have := hF 0 (by omega); unfold subL preL; split <;> omega))
  clear hF hG
  go_enter Try.func16, Try.ntmps16
  go_wp2_with (first
    | ((with_reducible refine wpl_box (o := ⟨some 2, _, _, _, _, _⟩) (v := el F) rfl (.tmp 0) rfl rfl ?_); intro g1 w1 m1)
    | ((with_reducible refine wpl_box (o := ⟨some 3, _, _, _, _, _⟩) (v := el G) rfl (.tmp 1) rfl rfl ?_); intro g2 w2 m2)
    | ((with_reducible refine wpl_new (o := ⟨some 4, _, _, _, _, _⟩) rfl rfl zeroEl ?_); intro g3 w3 m3))
  have N := Lib.hid (show Far3 w g1 g2 g3 from ⟨m2.ne m1.blk.lt, m3.ne (m2.kept.lt m1.blk.lt), m3.ne m2.blk.lt, m1.le, Nat.le_trans m1.kept.size m2.le, Nat.le_trans (m1.kept.then0 m2.kept).size m3.le⟩)
  have H0 := Lib.hid (show Two w g1 g2 g3 (mix F (preL F G) 0) G w3 from
    ⟨by rw [mix_zero]; exact (m1.blk.kept m2.kept (by simp)).kept m3.kept (by simp), m2.blk.kept m3.kept (by simp), m3.blk, (m1.kept.then0 m2.kept).then0 m3.kept⟩)
  clear m1 m2 m3
  go_loopg [6] 5 (fun f i wk => ∃ k : Nat, k ≤ 5 ∧ f + k = 5 ∧ i = .int .i64 k ∧ Two w g1 g2 g3 (mix F (preL F G) k) G wk)
  case atStart => exact ⟨0, Nat.zero_le _, rfl, rfl, H0.out⟩
  case round =>
    obtain ⟨k, hk, hf, rfl, hs⟩ := hrel
    have H := Lib.hid hs
    clear hs
    by_cases hlt : k < 5
    · have H1 := Lib.hid (H.out.seta N.out)
      have c1 := Blk.eget H.out.a k hlt
      rw [mix_at] at c1
      have c2 := Blk.eget H.out.b k hlt
      have z1 := H.out.a.frozen k
      have b1 := hL.out.1 k hlt
      have b2 := hL.out.2 k hlt
      have hs : ((F k : Nat) : Int) + (9007199254740988 - ((G k : Nat) : Int)) = ((preL F G k : Nat) : Int) := by unfold preL; omega
      go_wp2_with fail
      refine Txt.wp_text (by kernel_rfl) (by kernel_rfl) ?_
      go_wp2_with fail
      refine ⟨rfl, by kernel_rfl, ?_⟩
      go_wp2_with fail
      go_roundg (5 - (k + 1))
      case measure => omega
      case rel => exact ⟨k + 1, by omega, by omega, by go_num, H1.out.drew⟩
    · obtain rfl : k = 5 := by omega
      have H2 := Lib.hid (H.out.same (mix_full 5 F (preL F G)))
      have c1 := Blk.eget H2.out.a 0 (by omega)
      have z1 := H2.out.a.frozen 0
      have b1 : preL F G 0 < 18446744073709551616 ∧ 72 ≤ preL F G 0 := by have := hL.out.1 0 (by omega); have := hL.out.2 0 (by omega); unfold preL; omega
      have hs : ((preL F G 0 : Nat) : Int) - 72 = ((subL F G 0 : Nat) : Int) := by unfold subL; rw [if_pos rfl]; omega
      have H3 := Lib.hid (show Two w g1 g2 g3 (subL F G) G (wr.setCell ⟨g1, 0, none⟩ (.int .u64 (subL F G 0 : Nat))) from by
        have hk : Kept [g1] wr (wr.setCell ⟨g1, 0, none⟩ (.int .u64 (subL F G 0 : Nat))) := (Kept.refl [g1] wr).setCell (.inl (by simp)) _
        have e : fam 5 (fun j => if j = 0 then subL F G 0 else preL F G j) = fam 5 (subL F G) := fam_ext 5 fun j _ => by
          by_cases h : j = 0
          · subst h; rfl
          · rw [if_neg h]; unfold subL; rw [if_neg h]
        have ha := H2.out.a.fset (v := fun z : Nat => Value.int .u64 (z : Int)) 0 (subL F G 0)
        rw [e] at ha
        exact ⟨ha, H2.out.b.kept hk (by simpa using Ne.symm N.out.n12), H2.out.r.kept hk (by simpa using Ne.symm N.out.n13), H2.out.k.then1 hk N.out.l1⟩)
      obtain ⟨b11, b12⟩ := b1
      go_wp2_with (first
        | (refine wpl_load_row structEl rfl (.tmp 2) rfl rfl H3.out.a rfl ?_)
        | (go_at_call 31; refine (hcar.out _).mono ?_; rintro e w6 ⟨rfl, k6⟩; have H4 := Lib.hid (H3.out.kept k6); clear k6)
        | (refine wpl_store_row structEl rfl (.tmp 4) (.tmp 29) rfl rfl rfl H4.out.r rfl rfl (one_el _) ?_; intro w8 b8 k8))
      exact ret_row structEl rfl rfl b8 rfl rfl ⟨rfl, H4.out.k.then1 k8 N.out.l3⟩
end Go.Proofs.Ythmpdhegodmjjaa
