/-
  Scalars, the document's answer: the sum.
-/
import Derived.Test.YtfamfdihflkdpaaSr3
import Derived.Test.YtfamfdihflkdpaaSl2
namespace Go.Proofs.Ytfamfdihflkdpaa
open Go.RowKit Go.Mem

/-- The carry of a sum, by digits. -/
def ac (x y k : Nat) : Nat := (x % 256 ^ k + y % 256 ^ k) / 256 ^ k
theorem ac_zero (x y : Nat) : ac x y 0 = 0 := by simp [ac, Nat.mod_one]
theorem ac_step (x y k : Nat) : ac x y k ≤ 1 ∧ (ac x y k + (dg x k + dg y k)) % 256 = dg (x + y) k ∧ (ac x y k + (dg x k + dg y k)) / 256 = ac x y (k + 1) := by
  have hp : 0 < 256 ^ k := Nat.pow_pos (by decide)
  have m1 := mod_dg x k
  have m2 := mod_dg y k
  have l1 : x % 256 ^ k < 256 ^ k := Nat.mod_lt _ hp
  have l2 : y % 256 ^ k < 256 ^ k := Nat.mod_lt _ hp
  have e1 : x = 256 ^ k * (x / 256 ^ k) + x % 256 ^ k := (Nat.div_add_mod x (256 ^ k)).symm
  have e2 : y = 256 ^ k * (y / 256 ^ k) + y % 256 ^ k := (Nat.div_add_mod y (256 ^ k)).symm
  have h1 : (x + y) / 256 ^ k = (x / 256 ^ k + y / 256 ^ k) + ac x y k := by
    have : x + y = 256 ^ k * (x / 256 ^ k + y / 256 ^ k) + (x % 256 ^ k + y % 256 ^ k) := by
      rw [Nat.mul_add]; omega
    rw [this, Nat.mul_add_div hp]; rfl
  have h2 : ac x y (k + 1) = (ac x y k + (dg x k + dg y k)) / 256 := by
    show (x % 256 ^ (k + 1) + y % 256 ^ (k + 1)) / 256 ^ (k + 1) = _
    rw [m1, m2, Nat.pow_succ, ← Nat.div_div_eq_div_mul]
    congr 1
    have : x % 256 ^ k + 256 ^ k * dg x k + (y % 256 ^ k + 256 ^ k * dg y k) = 256 ^ k * (dg x k + dg y k) + (x % 256 ^ k + y % 256 ^ k) := by
      rw [Nat.mul_add]; omega
    rw [this, Nat.mul_add_div hp, Nat.add_comm]; rfl
  have h3 : ac x y k ≤ 1 := by
    have : ac x y k < 2 := by
      unfold ac
      rw [Nat.div_lt_iff_lt_mul hp]; omega
    omega
  refine ⟨h3, ?_, h2.symm⟩
  show _ = (x + y) / 256 ^ k % 256
  rw [h1]
  show (ac x y k + (x / 256 ^ k % 256 + y / 256 ^ k % 256)) % 256 = _
  omega
theorem leN_dg (x n i : Nat) (h : i < n) : (((le x n)[i]'(by rw [le_len]; exact h)).toNat : Int) = (dg x i : Int) := by
  rw [le_get x n i h, UInt8.toNat_ofNat']
  unfold dg
  rw [show (256 : Nat) ^ i = 2 ^ (8 * i) from by rw [Nat.pow_mul]]
  omega
theorem byte_dg (bs : List UInt8) (i : Nat) (h : i < bs.length) : bs[i].toNat = dg (leV bs) i := by
  have e := le_leV bs
  have h2 := leN_dg (leV bs) bs.length i h
  simp only [e] at h2
  omega
theorem bytesZ (n : Nat) (hn : n ≤ 100) : ∃ Z : Array Value, Z = (bv (noughts n)).toArray ∧ ∀ W : World, (Instr.makeSlice 31 (.int .i64 n) (.int .i64 n)).run Try.prog W = .ok (.slice (some ⟨W.heap.size, 0, none⟩) n n) (W.alloc (.cells Z 5)) :=
  ⟨_, rfl, fun W => by
    have h := run_mk bytesT n (by omega) (by omega) W
    have e : madeCells (Value.int .u8 0).cells n = (bv (noughts n)).toArray := by
      apply Array.toList_inj.1
      exact made_zero n
    rw [e] at h
    exact h⟩

theorem ac_top {A B : Nat} (ha : A < 2 ^ (8 * 32)) (hb : B < 2 ^ (8 * 32)) : ac A B 32 = dg (A + B) 32 := by
  obtain ⟨h1, -, -⟩ := ac_step A B 32
  have e : (256 : Nat) ^ 32 = 2 ^ (8 * 32) := by rw [Nat.pow_mul]
  unfold ac at h1 ⊢
  unfold dg
  rw [e] at h1 ⊢
  rw [Nat.mod_eq_of_lt ha, Nat.mod_eq_of_lt hb] at h1 ⊢
  omega

/-- What lies in memory. -/
structure Add3 (w0 : World) (g2 g3 g4 G : Nat) (a b s : List UInt8) (u : World) : Prop where
  a : Blk u g2 22 (bv a).toArray
  b : Blk u g3 22 (bv b).toArray
  c : Blk u g4 22 (bv (noughts 32)).toArray
  s : Blk u G 5 (bv s).toArray
  k : Kept [] w0 u
theorem Add3.drew {w0 : World} {g2 g3 g4 G : Nat} {a b s : List UInt8} {u : World} (h : Add3 w0 g2 g3 g4 G a b s u) : Add3 w0 g2 g3 g4 G a b s u.drew := ⟨h.a, h.b, h.c, h.s, h.k.drew⟩
theorem Add3.set_ {w0 : World} {g2 g3 g4 G : Nat} {a b s s' : List UInt8} {u : World} (h : Add3 w0 g2 g3 g4 G a b s u) (k : Nat) (v : Value) (hs : (bv s).toArray.setIfInBounds k v = (bv s').toArray) (n : g2 ≠ G ∧ g3 ≠ G ∧ g4 ≠ G) (hl : w0.heap.size ≤ G) : Add3 w0 g2 g3 g4 G a b s' (u.setCell ⟨G, k, none⟩ v) :=
  have hk : Kept [G] u (u.setCell ⟨G, k, none⟩ v) := (Kept.refl [G] u).setCell (.inl (by simp)) v
  ⟨h.a.kept hk (by simpa using n.1), h.b.kept hk (by simpa using n.2.1), h.c.kept hk (by simpa using n.2.2), by have := h.s.set_ k v; rwa [hs] at this, h.k.then1 hk hl⟩

set_option maxRecDepth 100000 in
set_option maxHeartbeats 1600000 in
theorem radd_any (a b : List UInt8) (w : World) (ha : a.length = 32) (hb : b.length = 32) :
    Calls Try.prog 13 #[ab a, ab b] w fun e w' => e = .returned (ab (le ((leV a + leV b) % LL) 32)) ∧ Kept [] w w' := by
  have hL := Lib.hid (And.intro ha hb)
  obtain ⟨Z, hZ, hmk⟩ := bytesZ 33 (by omega)
  have hmk : ∀ W : World, (Instr.makeSlice 31 (.int .i64 33) (.int .i64 33)).run Try.prog W = .ok (.slice (some ⟨W.heap.size, 0, none⟩) 33 33) (W.alloc (.cells Z 5)) := hmk
  have hZ2 := Lib.hid hZ
  obtain ⟨A, hA⟩ : ∃ A, A = leV a := ⟨_, rfl⟩
  obtain ⟨B, hB⟩ : ∃ B, B = leV b := ⟨_, rfl⟩
  have hA2 : A < 2 ^ (8 * 32) := by have := leV_lt2 a; rwa [ha, ← hA] at this
  have hB2 : B < 2 ^ (8 * 32) := by have := leV_lt2 b; rwa [hb, ← hB] at this
  rw [← hA, ← hB]
  obtain ⟨R, hR0⟩ : ∃ R, R = (A + B) % LL := ⟨_, rfl⟩
  rw [← hR0]
  have hR := Lib.hid hR0
  clear hR0
  have hAB := Lib.hid (And.intro hA hB)
  have hlt2 := Lib.hid (And.intro hA2 hB2)
  clear ha hb hZ hA hB hA2 hB2
  go_enter Try.func13, Try.ntmps13
  go_wp2_with (first
    | ((with_reducible refine wpl_box (o := ⟨some 2, _, _, _, _, _⟩) (v := ab a) rfl (.tmp 0) rfl rfl ?_); intro g2 w2 m2)
    | ((with_reducible refine wpl_box (o := ⟨some 3, _, _, _, _, _⟩) (v := ab b) rfl (.tmp 1) rfl rfl ?_); intro g3 w3 m3)
    | ((with_reducible refine wpl_new (o := ⟨some 4, _, _, _, _, _⟩) rfl rfl zeroB ?_); intro g4 w4 m4))
  have bA := (m2.blk.kept m3.kept (by simp)).kept m4.kept (by simp)
  have bB := m3.blk.kept m4.kept (by simp)
  have K4 := (m2.kept.then0 m3.kept).then0 m4.kept
  have hN := Lib.hid (show (g2 ≠ w4.heap.size ∧ g3 ≠ w4.heap.size ∧ g4 ≠ w4.heap.size) ∧ w.heap.size ≤ w4.heap.size ∧ w.heap.size ≤ g4 from
    ⟨⟨Nat.ne_of_lt bA.lt, Nat.ne_of_lt bB.lt, Nat.ne_of_lt m4.blk.lt⟩, K4.size, Nat.le_trans (m2.kept.then0 m3.kept).size m4.le⟩)
  have H0 := Lib.hid (show Add3 w g2 g3 g4 w4.heap.size a b (over (noughts 33) 0 ((le (A + B) 33).take 0)) (w4.alloc (.cells Z 5)) from
    ⟨bA.alloc _, bB.alloc _, m4.blk.alloc _, by have := Blk.new w4 5 Z; rw [hZ2.out] at this ⊢; exact this, K4.alloc _⟩)
  clear m2 m3 m4 bA bB K4
  go_loopg [7, 6] 32 (fun f i c wk => ∃ k : Nat, k ≤ 32 ∧ f + k = 32 ∧ i = .int .i64 k ∧ c = .int .i64 (ac A B k : Nat) ∧ Add3 w g2 g3 g4 w4.heap.size a b (over (noughts 33) 0 ((le (A + B) 33).take k)) wk)
  case atStart => exact ⟨0, Nat.zero_le _, rfl, rfl, by rw [ac_zero]; rfl, H0.out⟩
  case round =>
    obtain ⟨k, hk, hf, rfl, rfl, hs⟩ := hrel
    have H := Lib.hid hs
    clear hs
    have hlk := Lib.hid (show ∀ j, j < 33 → j < (over (noughts 33) 0 ((le (A + B) 33).take k)).length from fun j hj => by rw [over_len _ _ _ (by simp [le_len, noughts]; omega)]; simpa [noughts] using hj)
    obtain ⟨s1, s2, s3⟩ := ac_step A B k
    by_cases hlt : k < 32
    · have d1 := byte_dg a k (by have := hL.out.1; omega)
      have d2 := byte_dg b k (by have := hL.out.2; omega)
      rw [← hAB.out.1] at d1
      rw [← hAB.out.2] at d2
      have c1 := H.out.a.bget k (by have := hL.out.1; omega)
      have c2 := H.out.b.bget k (by have := hL.out.2; omega)
      rw [d1] at c1
      rw [d2] at c2
      have b1 := dg_lt A k
      have b2 := dg_lt B k
      have b3 := dg_lt (A + B) k
      have e1 : (((ac A B k : Nat) : Int) + (((dg A k : Nat) : Int) + ((dg B k : Nat) : Int))) % 256 = ((dg (A + B) k : Nat) : Int) := by rw [← s2]; omega
      have e2 : (((ac A B k : Nat) : Int) + (((dg A k : Nat) : Int) + ((dg B k : Nat) : Int))) / 256 = ((ac A B (k + 1) : Nat) : Int) := by rw [← s3]; omega
      have hfz := H.out.s.frozen k
      have c3 := H.out.s.bget k (hlk.out k (by omega))
      have hst := over_stepB (noughts 33) (le (A + B) 33) k (by rw [le_len]; omega) (by simp [le_len, noughts])
      unfold byteV at hst
      rw [leN_dg (A + B) 33 k (by omega)] at hst
      have H2 := Lib.hid (H.out.set_ k _ hst hN.out.1 hN.out.2.1)
      have hw8 : IntKind.u8.wrap ((dg (A + B) k : Nat) : Int) = ((dg (A + B) k : Nat) : Int) := by simp [IntKind.wrap, IntKind.bits, IntKind.signed]; omega
      have hw9 : ((dg (A + B) k : Nat) : Int) % 256 = ((dg (A + B) k : Nat) : Int) := by omega
      clear s2 s3 d1 d2 hst
      go_wp2_with fail
      refine Txt.wp_text (by kernel_rfl) (by kernel_rfl) ?_
      go_wp2_with fail
      refine ⟨rfl, by kernel_rfl, ?_⟩
      go_wp2_with fail
      go_roundg (32 - (k + 1))
      case measure => omega
      case rel => exact ⟨k + 1, by omega, by omega, by go_num, by rw [e2], H2.out.drew⟩
    · obtain rfl : k = 32 := by omega
      have et := ac_top hlt2.out.1 hlt2.out.2
      rw [et]
      have b3 := dg_lt (A + B) 32
      have hfz := H.out.s.frozen 32
      have c3 := H.out.s.bget 32 (hlk.out 32 (by omega))
      have hst := over_stepB (noughts 33) (le (A + B) 33) 32 (by rw [le_len]; omega) (by simp [le_len, noughts])
      unfold byteV at hst
      rw [leN_dg (A + B) 33 32 (by omega)] at hst
      have H1 := H.out.set_ 32 _ hst hN.out.1 hN.out.2.1
      rw [List.take_of_length_le (by rw [le_len]; omega), over_all _ _ (by rw [le_len]; rfl)] at H1
      have H2 := Lib.hid H1
      have hw8 : IntKind.u8.wrap ((dg (A + B) 32 : Nat) : Int) = ((dg (A + B) 32 : Nat) : Int) := by simp [IntKind.wrap, IntKind.bits, IntKind.signed]; omega
      have hw9 : ((dg (A + B) 32 : Nat) : Int) % 256 = ((dg (A + B) 32 : Nat) : Int) := by omega
      have hmd := Lib.hid (rmod_any (.slice (some ⟨w4.heap.size, 0, none⟩) 33 33) (le (A + B) 33) _ (by rw [le_len]; exact Blk.rd H1.s (by simp [le_len]) (Nat.le_refl _)) (by rw [le_len]; omega))
      have e33 : leV (le (A + B) 33) = A + B := by
        rw [leV_le]
        have h1 := hlt2.out
        have h2 : (2 : Nat) ^ (8 * 33) = 2 ^ (8 * 32) * 256 := by decide +kernel
        exact Nat.mod_eq_of_lt (by rw [h2]; omega)
      rw [e33] at hmd
      clear hst H1 s1 s2 s3 et e33
      rw [← hR.out] at hmd
      go_wp2_with (first
        | (go_at_call 11; refine hmd.out.mono ?_; rintro e w6 ⟨rfl, k6⟩; have C6 := Lib.hid (And.intro (H2.out.c.kept k6 (by simp)) (H2.out.k.then0 k6)); clear k6)
        | (refine wpl_store_arr arrB rfl (.tmp 4) (.tmp 37) rfl rfl rfl C6.out.1 rfl (by simp [le_len]) (one_ab _) ?_; intro w7 b7 k7))
      exact ret_arr arrB rfl rfl b7 (by simp [le_len]) rfl ⟨rfl, C6.out.2.then1 k7 hN.out.2.2⟩
end Go.Proofs.Ytfamfdihflkdpaa
