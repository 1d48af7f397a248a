/-
  Field: a number's bytes: the walk.
-/
import Derived.Test.YthmpdhegodmjjaaFe4b
import Derived.BigQuiet
import Derived.Deep.QuietTactic
namespace Go.Proofs.Ythmpdhegodmjjaa
open Go.RowKit Go.Mem

theorem arrB : ArrT Try.prog 29 5 32 := ⟨Try.underlying29, by kernel_rfl⟩
theorem zeroB : (Try.prog.info? 29).map (·.zero) = some (some (ab (noughts 32))) := by kernel_rfl
theorem arrW : ArrT Try.prog 53 24 4 := ⟨Try.underlying53, by kernel_rfl⟩
theorem zeroW : (Try.prog.info? 53).map (·.zero) = some (some (.agg #[.int .u64 0, .int .u64 0, .int .u64 0, .int .u64 0])) := by kernel_rfl

/-- What lies in memory. -/
structure Ha (w0 : World) (g1 g2 : Nat) (f : Nat → Nat) (u : World) : Prop where
  a : Blk u g1 27 (uv (fam 5 f)).toArray
  r : Blk u g2 29 (bv (noughts 32)).toArray
  k : Kept [] w0 u
structure Far2 (w0 : World) (g1 g2 : Nat) : Prop where
  n12 : g1 ≠ g2
  l1 : w0.heap.size ≤ g1
  l2 : w0.heap.size ≤ g2
theorem Ha.kept {w0 : World} {g1 g2 : Nat} {f : Nat → Nat} {u u' : World} (H : Ha w0 g1 g2 f u) (hk : Kept [] u u') : Ha w0 g1 g2 f u' := ⟨H.a.kept hk (by simp), H.r.kept hk (by simp), H.k.then0 hk⟩
theorem Ha.set_ {w0 : World} {g1 g2 : Nat} {f f' : Nat → Nat} {u : World} (H : Ha w0 g1 g2 f u) (n : Far2 w0 g1 g2) (i x : Nat) (e : fam 5 (fun j => if j = i then x else f j) = fam 5 f') : Ha w0 g1 g2 f' (u.setCell ⟨g1, i, none⟩ (.int .u64 (x : Nat))) :=
  have hk : Kept [g1] u (u.setCell ⟨g1, i, none⟩ (.int .u64 (x : Nat))) := (Kept.refl [g1] u).setCell (.inl (by simp)) _
  ⟨e ▸ H.a.fset (v := fun z : Nat => Value.int .u64 (z : Int)) i x, H.r.kept hk (by simpa using Ne.symm n.n12), H.k.then1 hk n.l1⟩
theorem Ha.same {w0 : World} {g1 g2 : Nat} {f f' : Nat → Nat} {u : World} (H : Ha w0 g1 g2 f u) (e : fam 5 f = fam 5 f') : Ha w0 g1 g2 f' u := ⟨e ▸ H.a, H.r, H.k⟩
theorem qq_le {A : Nat → Nat} (h : Low2 A) : ∀ k, k < 5 → qq A k ≤ 1
  | 0, _ => by have := h.a0; show (A 0 + 19) / 2251799813685248 ≤ 1; omega
  | k + 1, hk => by have := qq_le h k (by omega); have := h.ai (k + 1) (by omega) hk; show (A (k + 1) + qq A k) / 2251799813685248 ≤ 1; omega
theorem low_lt {A : Nat → Nat} (h : Low2 A) (i : Nat) (hi : i < 5) : A i < 2251799813685248 + 19 := by
  rcases Nat.eq_zero_or_pos i with rfl | h1
  · exact h.a0
  · have := h.ai i h1 hi; omega

theorem blk_new_at (w : World) (t : TypeId) (cs : Array Value) (n : Nat) (h : n = w.heap.size) : Blk (w.alloc (.cells cs t)) n t cs := by subst h; exact Blk.new w t cs
theorem Ha.drew {w0 : World} {g1 g2 : Nat} {f : Nat → Nat} {u : World} (H : Ha w0 g1 g2 f u) : Ha w0 g1 g2 f u.drew := ⟨H.a, H.r, H.k.drew⟩
theorem tc_lt {A : Nat → Nat} (h : Low2 A) : ∀ k, k < 5 → tc (lessL A) k < 2251799813685248 + 64
  | 0, _ => by have := h.a0; have := qq_le h 4 (by omega); show A 0 + 19 * qq A 4 < _; omega
  | k + 1, hk => by
    have := tc_lt h k (by omega)
    have := h.ai (k + 1) (by omega) hk
    show A (k + 1) + tc (lessL A) k / 2251799813685248 < _
    omega
theorem nm_step (B : Nat → Nat) (k : Nat) : fam 5 (fun j => if j = k then tc B k % 2251799813685248 else if j = k + 1 then tc B (k + 1) else nm B k j) = fam 5 (nm B (k + 1)) := fam_ext 5 fun j _ => by
  unfold nm
  by_cases h1 : j = k
  · rw [if_pos h1, if_pos (by omega), h1]
  · rw [if_neg h1]
    by_cases h2 : j = k + 1
    · rw [if_pos h2, if_neg (by omega), if_pos h2]
    · rw [if_neg h2]
      by_cases h3 : j < k
      · rw [if_pos h3, if_pos (by omega)]
      · rw [if_neg h3, if_neg h1, if_neg (by omega), if_neg h2]
theorem nm_zero (B : Nat → Nat) : fam 5 B = fam 5 (nm B 0) := fam_ext 5 fun j _ => by
  unfold nm
  rw [if_neg (by omega)]
  by_cases h : j = 0
  · rw [if_pos h, h]; rfl
  · rw [if_neg h]
theorem nm_end (A : Nat → Nat) : fam 5 (fun j => if j = 4 then tc (lessL A) 4 % 2251799813685248 else nm (lessL A) 4 j) = fam 5 (endL A) := fam_ext 5 fun j hj => by
  unfold endL nm
  by_cases h : j = 4
  · rw [if_pos h, h]
  · rw [if_neg h, if_pos (by omega)]
theorem less_fam (A : Nat → Nat) : fam 5 (fun j => if j = 0 then lessL A 0 else A j) = fam 5 (lessL A) := fam_ext 5 fun j _ => by
  by_cases h : j = 0
  · subst h; rfl
  · rw [if_neg h]; unfold lessL; rw [if_neg h]

set_option maxRecDepth 100000 in
set_option maxHeartbeats 3200000 in
theorem fhash_any (F : Nat → Nat) (w : World) (hF : Lim F) :
    Calls Try.prog 14 #[el F] w fun e w' => e = .returned (ab (le (fv F % PP) 32)) ∧ Kept [] w w' := by
  have hc1 := Lib.hid (fun W => carried_any F W (fun i hi => by have := hF i hi; omega))
  have hc2 := Lib.hid (fun W => carried_any (carL F) W (fun i hi => by have := carL_lim F (fun i hi => by have := hF i hi; omega) i hi; omega))
  have hlow := low2 F hF
  have hend := end_mod F hF
  obtain ⟨X, hX⟩ : ∃ X, X = fv F % PP := ⟨_, rfl⟩
  rw [← hX] at hend ⊢
  obtain ⟨A, hA⟩ : ∃ A, A = carL (carL F) := ⟨_, rfl⟩
  rw [← hA] at hc2 hlow hend
  have L := Lib.hid hlow
  have E := Lib.hid hend
  clear hF hX hA hlow hend
  go_enter Try.func14, Try.ntmps14
  go_wp2_with (first
    | ((with_reducible refine wpl_box (o := ⟨some 1, _, _, _, _, _⟩) (v := el F) rfl (.tmp 0) rfl rfl ?_); intro g1 w1 m1)
    | ((with_reducible refine wpl_new (o := ⟨some 2, _, _, _, _, _⟩) rfl rfl zeroB ?_); intro g2 w2 m2; have N := Lib.hid (show Far2 w g1 g2 from ⟨m2.ne m1.blk.lt, m1.le, Nat.le_trans m1.kept.size m2.le⟩); have H := Lib.hid (show Ha w g1 g2 F w2 from ⟨m1.blk.kept m2.kept (by simp), m2.blk, m1.kept.then0 m2.kept⟩); clear m1 m2)
    | (refine wpl_load_row structEl rfl (.tmp 1) rfl rfl H.out.a rfl ?_)
    | (go_at_call 31; (with_reducible refine (hc1.out _).mono ?_); rintro e w3 ⟨rfl, k3⟩; have H := Lib.hid (H.out.kept k3); clear k3)
    | (go_at_call 31; (with_reducible refine (hc2.out _).mono ?_); rintro e w4 ⟨rfl, k4⟩; have H := Lib.hid (H.out.kept k4); clear k4)
    | (refine wpl_store_row structEl rfl (.tmp 1) (.tmp 11) rfl rfl rfl H.out.a rfl rfl (one_el _) ?_; intro w5 b5 k5; have H1 := Lib.hid (show Ha w g1 g2 A w5 from ⟨b5, H.out.r.kept k5 (by simpa using Ne.symm N.out.n12), H.out.k.then1 k5 N.out.l1⟩); have c1 := Blk.eget H1.out.a 0 (by omega); have b0 := L.out.a0; have hq0 : (((A 0 : Nat) : Int) + 19) / 2251799813685248 = ((qq A 0 : Nat) : Int) := by (show _ = (((A 0 + 19) / 2251799813685248 : Nat) : Int)); omega))
  clear c1 b5 k5 hq0 b0
  go_loopg [4, 3] 4 (fun f i q wk => ∃ k : Nat, k ≤ 4 ∧ f + k = 4 ∧ i = .int .i64 ((k : Int) + 1) ∧ q = .int .u64 (qq A k : Nat) ∧ Ha w g1 g2 A wk)
  case atStart => exact ⟨0, by omega, rfl, rfl, rfl, H1.out⟩
  case round =>
    obtain ⟨k, hk, hf, rfl, rfl, hs⟩ := hrel
    have H := Lib.hid hs
    clear hs
    by_cases hlt : k < 4
    · have c1 := Blk.eget H.out.a (k + 1) (by omega)
      have b1 := L.out.ai (k + 1) (by omega) (by omega)
      have b2 := qq_le L.out k (by omega)
      have hq : (((A (k + 1) : Nat) : Int) + ((qq A k : Nat) : Int)) / 2251799813685248 = ((qq A (k + 1) : Nat) : Int) := by (show _ = (((A (k + 1) + qq A k) / 2251799813685248 : Nat) : Int)); omega
      go_wp2_with fail
      go_roundg (4 - (k + 1))
      case measure => omega
      case rel => exact ⟨k + 1, by omega, by omega, by go_num, rfl, H.out⟩
    · obtain rfl : k = 4 := by omega
      have c1 := Blk.eget H.out.a 0 (by omega)
      have z1 := H.out.a.frozen 0
      have b0 := L.out.a0
      have b4 := qq_le L.out 4 (by omega)
      have hl : ((A 0 : Nat) : Int) + 19 * ((qq A 4 : Nat) : Int) = ((lessL A 0 : Nat) : Int) := by unfold lessL; rw [if_pos rfl]; omega
      have H1 := Lib.hid ((H.out.set_ N.out 0 (lessL A 0) (less_fam A)).same (nm_zero (lessL A)))
      go_wp2_with fail
      obtain ⟨wq, hwq⟩ : ∃ wq : World, wq = wr.setCell ⟨g1, 0, none⟩ (.int .u64 (lessL A 0 : Nat)) := ⟨_, rfl⟩
      rw [← hwq] at H1 ⊢
      clear hwq c1 z1 b0 b4 hl H
      go_loopg [36] 4 (fun f i wk => ∃ k : Nat, k ≤ 4 ∧ f + k = 4 ∧ i = .int .i64 k ∧ Ha w g1 g2 (nm (lessL A) k) wk)
      case atStart => exact ⟨0, by omega, rfl, rfl, H1.out⟩
      case round =>
        obtain ⟨k, hk, hf, rfl, hs⟩ := hrel
        have H := Lib.hid hs
        clear hs
        by_cases hlt : k < 4
        · have H2 := Lib.hid (H.out.set_ N.out (k + 1) (tc (lessL A) (k + 1)) rfl)
          have H3 := Lib.hid (H2.out.set_ N.out k (tc (lessL A) k % 2251799813685248) (nm_step (lessL A) k))
          have c1 := Blk.eget H.out.a (k + 1) (by omega)
          rw [show nm (lessL A) k (k + 1) = A (k + 1) from by unfold nm lessL; rw [if_neg (by omega), if_neg (by omega), if_neg (by omega)]] at c1
          have c2 := Blk.eget H.out.a k (by omega)
          rw [show nm (lessL A) k k = tc (lessL A) k from by unfold nm; rw [if_neg (by omega), if_pos rfl]] at c2
          have c3 := Blk.eget H2.out.a k (by omega)
          rw [if_neg (by omega), show nm (lessL A) k k = tc (lessL A) k from by unfold nm; rw [if_neg (by omega), if_pos rfl]] at c3
          have z1 := H.out.a.frozen (k + 1)
          have z2 := H2.out.a.frozen k
          have b1 := L.out.ai (k + 1) (by omega) (by omega)
          have b2 := tc_lt L.out k (by omega)
          obtain ⟨p, hp⟩ : ∃ p, p = tc (lessL A) k % 2251799813685248 := ⟨_, rfl⟩
          have ha : bits .and .u64 ((tc (lessL A) k : Nat) : Int) 2251799813685247 = ((p : Nat) : Int) := by rw [hp]; exact and51 _ (by omega)
          rw [← hp] at H3
          have hq : ((A (k + 1) : Nat) : Int) + ((tc (lessL A) k : Nat) : Int) / 2251799813685248 = ((tc (lessL A) (k + 1) : Nat) : Int) := by (show _ = ((A (k + 1) + tc (lessL A) k / 2251799813685248 : Nat) : Int)); omega
          clear hp
          go_wp2_with fail
          refine Txt.wp_text (by kernel_rfl) (by kernel_rfl) ?_
          go_wp2_with fail
          refine ⟨rfl, by kernel_rfl, ?_⟩
          go_wp2_with fail
          go_roundg (4 - (k + 1))
          case measure => omega
          case rel => exact ⟨k + 1, by omega, by omega, by go_num, H3.out.drew⟩
        · obtain rfl : k = 4 := by omega
          have H2 := Lib.hid (H.out.set_ N.out 4 (tc (lessL A) 4 % 2251799813685248) (nm_end A))
          have c1 := Blk.eget H.out.a 4 (by omega)
          rw [show nm (lessL A) 4 4 = tc (lessL A) 4 from rfl] at c1
          have z1 := H.out.a.frozen 4
          have b2 := tc_lt L.out 4 (by omega)
          have ha : bits .and .u64 ((tc (lessL A) 4 : Nat) : Int) 2251799813685247 = ((endL A 4 : Nat) : Int) := and51 _ (by omega)
          have e4 : tc (lessL A) 4 % 2251799813685248 = endL A 4 := rfl
          rw [e4] at H2
          clear e4
          have d0 := Blk.eget H2.out.a 0 (by omega)
          have d1 := Blk.eget H2.out.a 1 (by omega)
          have d2 := Blk.eget H2.out.a 2 (by omega)
          have d3 := Blk.eget H2.out.a 3 (by omega)
          have d4 := Blk.eget H2.out.a 4 (by omega)
          have r0 := endL_lt A 0
          have r1 := endL_lt A 1
          have r2 := endL_lt A 2
          have r3 := endL_lt A 3
          have r4 := endL_lt A 4
          have q0 := word0 (endL A) (endL_lt A)
          have q1 := word1 (endL A) (endL_lt A)
          have q2 := word2 (endL A) (endL_lt A)
          have q3 := word3 (endL A) (endL_lt A)
          rw [E.out] at q0 q1 q2 q3
          have hsz : (wr.setCell ⟨g1, 4, none⟩ (.int .u64 (endL A 4 : Nat))).heap.size = wr.heap.size := by simp
          have N7 := Lib.hid (show wr.heap.size ≠ wr.heap.size + 1 ∧ g2 ≠ wr.heap.size + 1 ∧ w.heap.size ≤ wr.heap.size + 1 from
            ⟨by omega, by have := H2.out.r.lt; omega, by have := H2.out.k.size; omega⟩)
          have N71 := Lib.hid (show g1 ≠ wr.heap.size + 1 from by have := H2.out.a.lt; omega)
          have H3 := Lib.hid (fun (o1 o2 : Obj) => (show Ha w g1 g2 (endL A) (((wr.setCell ⟨g1, 4, none⟩ (.int .u64 (endL A 4 : Nat))).alloc o1).alloc o2) from ⟨(H2.out.a.alloc _).alloc _, (H2.out.r.alloc _).alloc _, (H2.out.k.alloc _).alloc _⟩))
          have B6 := Lib.hid (fun (o2 : Obj) => (blk_new_at (wr.setCell ⟨g1, 4, none⟩ (.int .u64 (endL A 4 : Nat))) 53 (uv (fam 4 (wrd X))).toArray wr.heap.size hsz.symm).alloc o2)
          have B7 := Lib.hid (fun (o1 : Obj) => blk_new_at ((wr.setCell ⟨g1, 4, none⟩ (.int .u64 (endL A 4 : Nat))).alloc o1) 29 (bv (noughts 32)).toArray (wr.heap.size + 1) (by simp))
          clear hsz
          go_wp2_with fail
          obtain ⟨wz, hwz⟩ : ∃ wz : World, wz = wr := ⟨_, rfl⟩
          subst hwz
          go_loopg [102] 32 (fun f i wk => ∃ k : Nat, k ≤ 32 ∧ f + k = 32 ∧ i = .int .i64 k ∧ Blk wk (wz.heap.size + 1) 29 (bv (over (noughts 32) 0 ((le X 32).take k))).toArray ∧ Blk wk wz.heap.size 53 (uv (fam 4 (wrd X))).toArray ∧ Ha w g1 g2 (endL A) wk)
          case atStart => exact ⟨0, Nat.zero_le _, rfl, rfl, B7.out _, B6.out _, H3.out _ _⟩
          case round =>
            obtain ⟨k, hk, hf, rfl, hb, hw6, hs⟩ := hrel
            have H := Lib.hid (And.intro hw6 hs)
            clear hw6 hs
            by_cases hlt : k < 32
            · have c1 := Blk.eget H.out.1 (k / 8) (by omega)
              have hfz := hb.frozen k
              have c3 := hb.bget k (by rw [over_len _ _ _ (by simp [le_len]; omega)]; simpa using hlt)
              have hby := byte_of X k hlt
              have hst := hb.set_ k (byteV ((le X 32)[k]'(by rw [le_len]; exact hlt)))
              rw [over_stepB (noughts 32) (le X 32) k (by rw [le_len]; exact hlt) (by simp [le_len])] at hst
              have hst2 := Lib.hid hst
              have kk := (Kept.refl [wz.heap.size + 1] wr).setCell (p := ⟨wz.heap.size + 1, k, none⟩) (.inl (by simp)) (byteV ((le X 32)[k]'(by rw [le_len]; exact hlt)))
              have hk2 := Lib.hid (And.intro (H.out.1.kept kk (by simp)) (show Ha w g1 g2 (endL A) _ from ⟨H.out.2.a.kept kk (by simpa using N71.out), H.out.2.r.kept kk (by simpa using N7.out.2.1), H.out.2.k.then1 kk N7.out.2.2⟩))
              unfold byteV at hst2 hk2
              clear hst hb kk
              go_wp2_with fail
              go_roundg (32 - (k + 1))
              case measure => omega
              case rel => exact ⟨k + 1, by omega, by omega, by go_num, hst2.out, hk2.out.1, hk2.out.2⟩
            · obtain rfl : k = 32 := by omega
              have hb2 := Lib.hid hb
              clear hb
              rw [List.take_of_length_le (by rw [le_len]; exact Nat.le_refl _), over_all _ _ (by rw [le_len]; rfl)] at hb2
              go_wp2_with (first
                | (refine wpl_load_arr arrB rfl (.tmp 7) rfl rfl hb2.out (by simp [le_len]) ?_)
                | (refine wpl_store_arr arrB rfl (.tmp 2) (.tmp 118) rfl rfl rfl H.out.2.r rfl (by simp [le_len]) (one_ab _) ?_; intro w9 b9 k9))
              exact ret_arr arrB rfl rfl b9 (by simp [le_len]) rfl ⟨rfl, H.out.2.k.then1 k9 N.out.l2⟩
end Go.Proofs.Ythmpdhegodmjjaa
