/-
  Scalars, the document's answer: the product.
-/
import Derived.Test.YtfamfdihflkdpaaSr4
namespace Go.Proofs.Ytfamfdihflkdpaa
open Go.RowKit Go.Mem

/-- What digits of any size come to. -/
def dv : List Nat → Nat
  | [] => 0
  | x :: l => x + 256 * dv l
theorem dv_zero (n : Nat) : dv (List.replicate n 0) = 0 := by
  induction n with
  | zero => rfl
  | succ n ih => rw [List.replicate_succ]; show 0 + 256 * dv _ = 0; rw [ih]
theorem dv_set : ∀ (l : List Nat) (k v : Nat) (h : k < l.length), dv (l.set k (l[k] + v)) = dv l + v * 256 ^ k
  | x :: l, 0, v, _ => by show x + v + 256 * dv l = x + 256 * dv l + v * 256 ^ 0; omega
  | x :: l, k + 1, v, h => by
    have ih := dv_set l k v (by simpa using h)
    show x + 256 * dv (l.set k (l[k]'(by simpa using h) + v)) = x + 256 * dv l + v * 256 ^ (k + 1)
    rw [ih, Nat.pow_succ, Nat.mul_add]
    have : v * (256 ^ k * 256) = 256 * (v * 256 ^ k) := by rw [← Nat.mul_assoc, Nat.mul_comm]
    omega
theorem dv_split : ∀ (l : List Nat) (k : Nat), dv l = dv (l.take k) + 256 ^ k * dv (l.drop k)
  | [], k => by simp [dv]
  | x :: l, 0 => by simp [dv]
  | x :: l, k + 1 => by
    have ih := dv_split l k
    show x + 256 * dv l = x + 256 * dv (l.take k) + 256 ^ (k + 1) * dv (l.drop k)
    rw [Nat.pow_succ, Nat.mul_comm (256 ^ k) 256, Nat.mul_assoc]
    omega
theorem dv_one (l : List Nat) (k : Nat) (h : k < l.length) : dv (l.drop k) = l[k] + 256 * dv (l.drop (k + 1)) := by
  rw [List.drop_eq_getElem_cons h]; rfl
/-- The carry. -/
def cm (l : List Nat) (k : Nat) : Nat := dv (l.take k) / 256 ^ k
theorem cm_zero (l : List Nat) : cm l 0 = 0 := by simp [cm, dv]
theorem cm_step (l : List Nat) (k : Nat) (h : k < l.length) : (cm l k + l[k]) % 256 = dg (dv l) k ∧ (cm l k + l[k]) / 256 = cm l (k + 1) := by
  have hp : 0 < 256 ^ k := Nat.pow_pos (by decide)
  have s0 := dv_split l k
  have s1 := dv_split l (k + 1)
  have o1 := dv_one l k h
  have e1 : dv (l.take (k + 1)) = dv (l.take k) + 256 ^ k * l[k] := by
    rw [o1, Nat.mul_add] at s0
    rw [Nat.pow_succ, Nat.mul_assoc] at s1
    omega
  constructor
  · unfold cm dg
    rw [s0, Nat.add_comm (dv (l.take k)), Nat.mul_add_div hp, o1]
    omega
  · unfold cm
    rw [e1, Nat.pow_succ, ← Nat.div_div_eq_div_mul, Nat.add_comm (dv (l.take k)), Nat.mul_add_div hp, Nat.add_comm l[k]]

/-- Where the product stands. -/
structure MInv (A B i j : Nat) (l : List Nat) : Prop where
  len : l.length = 65
  val : dv l = (A % 256 ^ i) * B + dg A i * 256 ^ i * (B % 256 ^ j)
  bd : ∀ x ∈ l, x ≤ (i * 32 + j) * 65025
theorem minv_start (A B : Nat) : MInv A B 0 0 (List.replicate 65 0) :=
  ⟨by simp, by rw [dv_zero]; simp [Nat.mod_one], fun x hx => by have := List.eq_of_mem_replicate hx; omega⟩
theorem dg_mul (A B i j : Nat) : dg A i * dg B j ≤ 65025 := by
  have h1 := dg_lt A i
  have h2 := dg_lt B j
  exact Nat.mul_le_mul (show _ ≤ 255 by omega) (show _ ≤ 255 by omega)
theorem minv_step {A B i j : Nat} {l : List Nat} (h : MInv A B i j l) (hl : i + j < l.length) : MInv A B i (j + 1) (l.set (i + j) (l[i + j] + dg A i * dg B j)) := by
  refine ⟨by simpa using h.len, ?_, ?_⟩
  · rw [dv_set l (i + j) _ hl, h.val, mod_dg B j, Nat.mul_add]
    have : dg A i * 256 ^ i * (256 ^ j * dg B j) = dg A i * dg B j * 256 ^ (i + j) := by
      rw [Nat.pow_add]; ac_rfl
    rw [this, Nat.add_assoc]
  · intro x hx
    have hm := dg_mul A B i j
    rcases List.mem_or_eq_of_mem_set hx with h1 | h1
    · exact Nat.le_trans (h.bd x h1) (Nat.mul_le_mul_right _ (by omega))
    · have := h.bd _ (List.getElem_mem hl); omega
theorem minv_next {A B i : Nat} {l : List Nat} (h : MInv A B i 32 l) (hB : B < 256 ^ 32) : MInv A B (i + 1) 0 l := by
  refine ⟨h.len, ?_, fun x hx => Nat.le_trans (h.bd x hx) (Nat.mul_le_mul_right _ (by clear hB; omega))⟩
  have hv := h.val
  generalize (256 : Nat) ^ 32 = N at hv hB
  rw [hv, Nat.mod_eq_of_lt hB, mod_dg A i, Nat.add_mul, Nat.pow_zero, Nat.mod_one, Nat.mul_zero, Nat.add_zero, Nat.mul_comm (256 ^ i)]
theorem minv_end {A B : Nat} {l : List Nat} (h : MInv A B 32 0 l) (hA : A < 256 ^ 32) : dv l = A * B ∧ ∀ x ∈ l, x ≤ 66585600 := by
  refine ⟨?_, fun x hx => by have := h.bd x hx; omega⟩
  have hv := h.val
  generalize (256 : Nat) ^ 32 = N at hv hA
  rw [hv, Nat.mod_eq_of_lt hA, Nat.pow_zero, Nat.mod_one, Nat.mul_zero, Nat.add_zero]

def nv (l : List Nat) : List Value := l.map fun n : Nat => .int .i64 (n : Int)
theorem nv_set (l : List Nat) (k m : Nat) : (nv l).toArray.setIfInBounds k (.int .i64 (m : Int)) = (nv (l.set k m)).toArray := by simp [nv, List.map_set]
theorem intsZ (n : Nat) (hn : n ≤ 100) : ∃ Z : Array Value, Z = (nv (List.replicate n 0)).toArray ∧ ∀ W : World, (Instr.makeSlice 44 (.int .i64 n) (.int .i64 n)).run Try.prog W = .ok (.slice (some ⟨W.heap.size, 0, none⟩) n n) (W.alloc (.cells Z 3)) :=
  ⟨_, rfl, fun W => by
    have h := run_mk intT n (by omega) (by omega) W
    have e : madeCells (Value.int .i64 0).cells n = (nv (List.replicate n 0)).toArray := by
      apply Array.toList_inj.1
      exact (made_list (.int .i64 0) n).trans (by simp [nv])
    rw [e] at h
    exact h⟩

/-- What lies in memory. -/
structure Mul5 (w0 : World) (g2 g3 g4 G : Nat) (a b : List UInt8) (l : List Nat) (u : World) : Prop where
  a : Blk u g2 22 (bv a).toArray
  b : Blk u g3 22 (bv b).toArray
  c : Blk u g4 22 (bv (noughts 32)).toArray
  s : Blk u G 3 (nv l).toArray
  k : Kept [] w0 u
theorem Mul5.drew {w0 : World} {g2 g3 g4 G : Nat} {a b : List UInt8} {l : List Nat} {u : World} (h : Mul5 w0 g2 g3 g4 G a b l u) : Mul5 w0 g2 g3 g4 G a b l u.drew := ⟨h.a, h.b, h.c, h.s, h.k.drew⟩
theorem Mul5.set_ {w0 : World} {g2 g3 g4 G : Nat} {a b : List UInt8} {l : List Nat} {u : World} (h : Mul5 w0 g2 g3 g4 G a b l u) (k m : Nat) (n : g2 ≠ G ∧ g3 ≠ G ∧ g4 ≠ G) (hl : w0.heap.size ≤ G) : Mul5 w0 g2 g3 g4 G a b (l.set k m) (u.setCell ⟨G, k, none⟩ (.int .i64 (m : Int))) :=
  have hk : Kept [G] u (u.setCell ⟨G, k, none⟩ (.int .i64 (m : Int))) := (Kept.refl [G] u).setCell (.inl (by simp)) _
  ⟨h.a.kept hk (by simpa using n.1), h.b.kept hk (by simpa using n.2.1), h.c.kept hk (by simpa using n.2.2), by have := h.s.set_ k (.int .i64 (m : Int)); rwa [nv_set] at this, h.k.then1 hk hl⟩
theorem Blk.nget {w : World} {l : List Nat} {g : Nat} {bt : TypeId} (h : Blk w g bt (nv l).toArray) (k : Nat) (hk : k < l.length) : w.cell? ⟨g, k, none⟩ = some (.int .i64 (l[k] : Int)) := Blk.mget (f := fun n : Nat => Value.int .i64 (n : Int)) h k hk

/-- What lies in memory, later. -/
structure Mul9 (w0 : World) (g4 T G : Nat) (l : List Nat) (s : List UInt8) (u : World) : Prop where
  c : Blk u g4 22 (bv (noughts 32)).toArray
  t : Blk u T 3 (nv l).toArray
  s : Blk u G 5 (bv s).toArray
  k : Kept [] w0 u
theorem Mul9.set_ {w0 : World} {g4 T G : Nat} {l : List Nat} {s s' : List UInt8} {u : World} (h : Mul9 w0 g4 T G l s u) (k : Nat) (v : Value) (hs : (bv s).toArray.setIfInBounds k v = (bv s').toArray) (n : g4 ≠ G ∧ T ≠ G) (hl : w0.heap.size ≤ G) : Mul9 w0 g4 T G l s' (u.setCell ⟨G, k, none⟩ v) :=
  have hk : Kept [G] u (u.setCell ⟨G, k, none⟩ v) := (Kept.refl [G] u).setCell (.inl (by simp)) v
  ⟨h.c.kept hk (by simpa using n.1), h.t.kept hk (by simpa using n.2), by have := h.s.set_ k v; rwa [hs] at this, h.k.then1 hk hl⟩

set_option maxRecDepth 100000 in
set_option maxHeartbeats 1600000 in
theorem rmul_any (a b : List UInt8) (w : World) (ha : a.length = 32) (hb : b.length = 32) :
    Calls Try.prog 15 #[ab a, ab b] w fun e w' => e = .returned (ab (le ((leV a * leV b) % LL) 32)) ∧ Kept [] w w' := by
  have hL := Lib.hid (And.intro ha hb)
  obtain ⟨Z, hZ, hmk⟩ := intsZ 65 (by omega)
  have hmk : ∀ W : World, (Instr.makeSlice 44 (.int .i64 65) (.int .i64 65)).run Try.prog W = .ok (.slice (some ⟨W.heap.size, 0, none⟩) 65 65) (W.alloc (.cells Z 3)) := hmk
  obtain ⟨Y, hY, hmy⟩ := bytesZ 65 (by omega)
  have hmy : ∀ W : World, (Instr.makeSlice 31 (.int .i64 65) (.int .i64 65)).run Try.prog W = .ok (.slice (some ⟨W.heap.size, 0, none⟩) 65 65) (W.alloc (.cells Y 5)) := hmy
  have hZ2 := Lib.hid (And.intro hZ hY)
  obtain ⟨A, hA⟩ : ∃ A, A = leV a := ⟨_, rfl⟩
  obtain ⟨B, hB⟩ : ∃ B, B = leV b := ⟨_, rfl⟩
  have e32 : (256 : Nat) ^ 32 = 2 ^ (8 * 32) := by rw [Nat.pow_mul]
  have hA2 : A < 256 ^ 32 := by have := leV_lt2 a; rwa [ha, ← hA, ← e32] at this
  have hB2 : B < 256 ^ 32 := by have := leV_lt2 b; rwa [hb, ← hB, ← e32] at this
  rw [← hA, ← hB]
  obtain ⟨R, hR0⟩ : ∃ R, R = (A * B) % LL := ⟨_, rfl⟩
  rw [← hR0]
  have hR := Lib.hid hR0
  have hAB := Lib.hid (And.intro hA hB)
  have hlt2 := Lib.hid (And.intro hA2 hB2)
  clear ha hb hZ hY hA hB hA2 hB2 hR0 e32
  go_enter Try.func15, Try.ntmps15
  go_wp2_with (first
    | ((with_reducible refine wpl_box (o := ⟨some 2, _, _, _, _, _⟩) (v := ab a) rfl (.tmp 0) rfl rfl ?_); intro g2 w2 m2)
    | ((with_reducible refine wpl_box (o := ⟨some 3, _, _, _, _, _⟩) (v := ab b) rfl (.tmp 1) rfl rfl ?_); intro g3 w3 m3)
    | ((with_reducible refine wpl_new (o := ⟨some 4, _, _, _, _, _⟩) rfl rfl zeroB ?_); intro g4 w4 m4))
  have bA := (m2.blk.kept m3.kept (by simp)).kept m4.kept (by simp)
  have bB := m3.blk.kept m4.kept (by simp)
  have K4 := (m2.kept.then0 m3.kept).then0 m4.kept
  have hN := Lib.hid (show (g2 ≠ w4.heap.size ∧ g3 ≠ w4.heap.size ∧ g4 ≠ w4.heap.size) ∧ w.heap.size ≤ w4.heap.size ∧ w.heap.size ≤ g4 from
    ⟨⟨Nat.ne_of_lt bA.lt, Nat.ne_of_lt bB.lt, Nat.ne_of_lt m4.blk.lt⟩, K4.size, Nat.le_trans (m2.kept.then0 m3.kept).size m4.le⟩)
  have H0 := Lib.hid (show Mul5 w g2 g3 g4 w4.heap.size a b (List.replicate 65 0) (w4.alloc (.cells Z 3)) from
    ⟨bA.alloc _, bB.alloc _, m4.blk.alloc _, by have := Blk.new w4 3 Z; rw [hZ2.out.1] at this ⊢; exact this, K4.alloc _⟩)
  clear m2 m3 m4 bA bB K4
  go_loopg [6] 32 (fun f i wk => ∃ (k : Nat) (l : List Nat), k ≤ 32 ∧ f + k = 32 ∧ i = .int .i64 k ∧ Mul5 w g2 g3 g4 w4.heap.size a b l wk ∧ MInv A B k 0 l)
  case atStart => exact ⟨0, _, Nat.zero_le _, rfl, rfl, H0.out, minv_start A B⟩
  case round =>
    obtain ⟨i, l, hi, hf, rfl, hs, hv⟩ := hrel
    have H := Lib.hid hs
    have V := Lib.hid hv
    clear hs hv
    by_cases hlt : i < 32
    · go_wp2_with fail
      obtain ⟨wo, rfl⟩ : ∃ wo : World, wo = wr := ⟨_, rfl⟩
      go_loopg [7] 32 (fun f j wk => ∃ (k : Nat) (l : List Nat), k ≤ 32 ∧ f + k = 32 ∧ j = .int .i64 k ∧ Mul5 w g2 g3 g4 w4.heap.size a b l wk ∧ MInv A B i k l)
      case atStart => exact ⟨0, _, Nat.zero_le _, rfl, rfl, H.out, V.out⟩
      case round =>
        obtain ⟨j, l, hj, hf2, rfl, hs, hv⟩ := hrel
        have H := Lib.hid hs
        have V := Lib.hid hv
        clear hs hv
        by_cases hlt2j : j < 32
        · have d1 := byte_dg a i (by have := hL.out.1; omega)
          have d2 := byte_dg b j (by have := hL.out.2; omega)
          rw [← hAB.out.1] at d1
          rw [← hAB.out.2] at d2
          have c1 := H.out.a.bget i (by have := hL.out.1; omega)
          have c2 := H.out.b.bget j (by have := hL.out.2; omega)
          rw [d1] at c1
          rw [d2] at c2
          have hij := Lib.hid (show i + j < l.length by have := V.out.len; omega)
          obtain ⟨y, hy⟩ : ∃ y, y = l[i + j]'hij.out := ⟨_, rfl⟩
          obtain ⟨p, hp⟩ : ∃ p, p = dg A i * dg B j := ⟨_, rfl⟩
          have c3 := Blk.nget H.out.s (i + j) hij.out
          rw [← hy] at c3
          have hy2 : y ≤ 66585600 := by have := V.out.bd _ (List.getElem_mem hij.out); rw [← hy] at this; omega
          have hp2 : p ≤ 65025 := by rw [hp]; exact dg_mul A B i j
          have hpi : ((dg A i : Nat) : Int) * ((dg B j : Nat) : Int) = ((p : Nat) : Int) := by rw [hp]; exact (Int.natCast_mul _ _).symm
          have hm : wrap64 (wrap64 ((dg A i : Nat) : Int) * wrap64 ((dg B j : Nat) : Int)) = ((p : Nat) : Int) := by
            have b1 := dg_lt A i
            have b2 := dg_lt B j
            rw [IntWalk.wrap64_in ((dg A i : Nat) : Int) ⟨by omega, by omega⟩, IntWalk.wrap64_in ((dg B j : Nat) : Int) ⟨by omega, by omega⟩, hpi, IntWalk.wrap64_in _ ⟨by omega, by omega⟩]
          have hfz := H.out.s.frozen (i + j)
          have H2 := Lib.hid (H.out.set_ (i + j) (y + p) hN.out.1 hN.out.2.1)
          have V2 := Lib.hid (show MInv A B i (j + 1) (l.set (i + j) (y + p)) by rw [hy, hp]; exact minv_step V.out hij.out)
          clear d1 d2 hy hp hpi
          go_wp2_with fail
          refine Txt.wp_text (by kernel_rfl) (by kernel_rfl) ?_
          go_wp2_with fail
          refine ⟨rfl, by kernel_rfl, ?_⟩
          go_wp2_with fail
          go_roundg (32 - (j + 1))
          case measure => omega
          case rel => exact ⟨j + 1, _, by omega, by omega, by go_num, H2.out.drew, V2.out⟩
        · obtain rfl : j = 32 := by omega
          have V2 := Lib.hid (minv_next V.out hlt2.out.2)
          go_wp2_with fail
          go_roundg (32 - (i + 1))
          case measure => omega
          case rel => exact ⟨i + 1, _, by omega, by omega, by go_num, H.out, V2.out⟩
    · obtain rfl : i = 32 := by omega
      obtain ⟨hdv, hbd⟩ := minv_end V.out hlt2.out.1
      have D := Lib.hid (And.intro hdv hbd)
      have hlen := Lib.hid V.out.len
      clear hdv hbd
      go_wp2_with fail
      have h6 := H.out
      have hG := Lib.hid (show w4.heap.size ≠ wr.heap.size ∧ g4 ≠ wr.heap.size ∧ w.heap.size ≤ wr.heap.size from ⟨Nat.ne_of_lt h6.s.lt, Nat.ne_of_lt h6.c.lt, h6.k.size⟩)
      have H7 := Lib.hid (show Mul9 w g4 w4.heap.size wr.heap.size l (over (noughts 65) 0 ((le (A * B) 65).take 0)) (wr.alloc (.cells Y 5)) from
        ⟨h6.c.alloc _, h6.s.alloc _, by have := Blk.new wr 5 Y; rw [hZ2.out.2] at this ⊢; exact this, h6.k.alloc _⟩)
      clear h6
      obtain ⟨wq, hwq⟩ : ∃ wq : World, wq = wr := ⟨_, rfl⟩
      subst hwq
      go_loopg [40, 9] 65 (fun f j cc wk => ∃ (k : Nat), k ≤ 65 ∧ f + k = 65 ∧ j = .int .i64 k ∧ cc = .int .i64 (cm l k : Nat) ∧ cm l k ≤ 66585600 ∧ Mul9 w g4 w4.heap.size wq.heap.size l (over (noughts 65) 0 ((le (A * B) 65).take k)) wk)
      case atStart => exact ⟨0, Nat.zero_le _, rfl, rfl, by rw [cm_zero]; rfl, by rw [cm_zero]; omega, H7.out⟩
      case round =>
        obtain ⟨k, hk, hf3, rfl, rfl, hcb, hs⟩ := hrel
        have H := Lib.hid hs
        clear hs
        have hlk := Lib.hid (show ∀ j, j < 65 → j < (over (noughts 65) 0 ((le (A * B) 65).take k)).length from fun j hj => by rw [over_len _ _ _ (by simp [le_len, noughts]; omega)]; simpa [noughts] using hj)
        by_cases hlt3 : k < 65
        · have hkl := Lib.hid (show k < l.length by have := hlen.out; omega)
          obtain ⟨s2, s3⟩ := cm_step l k hkl.out
          rw [D.out.1] at s2
          obtain ⟨y, hy⟩ : ∃ y, y = l[k]'hkl.out := ⟨_, rfl⟩
          have c1 := Blk.nget H.out.t k hkl.out
          rw [← hy] at c1 s2 s3
          have hy2 : y ≤ 66585600 := by rw [hy]; exact D.out.2 _ (List.getElem_mem hkl.out)
          have b3 := dg_lt (A * B) k
          have e1 : (((cm l k : Nat) : Int) + ((y : Nat) : Int)) % 256 = ((dg (A * B) k : Nat) : Int) := by rw [← s2]; omega
          have e2 : (((cm l k : Nat) : Int) + ((y : Nat) : Int)) / 256 = ((cm l (k + 1) : Nat) : Int) := by rw [← s3]; omega
          have hcb2 := Lib.hid (show cm l (k + 1) ≤ 66585600 by rw [← s3]; omega)
          have hfz := H.out.s.frozen k
          have c3 := H.out.s.bget k (hlk.out k hlt3)
          have hst := over_stepB (noughts 65) (le (A * B) 65) k (by rw [le_len]; omega) (by simp [le_len, noughts])
          unfold byteV at hst
          rw [leN_dg (A * B) 65 k (by omega)] at hst
          have H2 := Lib.hid (H.out.set_ k _ hst ⟨hG.out.2.1, hG.out.1⟩ hG.out.2.2)
          have hw8 : IntKind.u8.wrap ((dg (A * B) k : Nat) : Int) = ((dg (A * B) k : Nat) : Int) := by simp [IntKind.wrap, IntKind.bits, IntKind.signed]; omega
          have hw9 : ((dg (A * B) k : Nat) : Int) % 256 = ((dg (A * B) k : Nat) : Int) := by omega
          clear s2 s3 hst hy
          go_wp2_with fail
          go_roundg (65 - (k + 1))
          case measure => omega
          case rel => exact ⟨k + 1, by omega, by omega, by go_num, by rw [e2], hcb2.out, H2.out⟩
        · obtain rfl : k = 65 := by omega
          have H1 := H.out
          rw [List.take_of_length_le (by rw [le_len]; omega), over_all _ _ (by rw [le_len]; rfl)] at H1
          have H2 := Lib.hid H1
          have hmd := Lib.hid (rmod_any (.slice (some ⟨wq.heap.size, 0, none⟩) 65 65) (le (A * B) 65) _ (by rw [le_len]; exact Blk.rd H1.s (by simp [le_len]) (Nat.le_refl _)) (by rw [le_len]; omega))
          have e65 : leV (le (A * B) 65) = A * B := by
            rw [leV_le]
            exact Nat.mod_eq_of_lt (Nat.lt_of_lt_of_le (Nat.mul_lt_mul'' hlt2.out.1 hlt2.out.2) (by decide +kernel))
          rw [e65, ← hR.out] at hmd
          clear H1 e65
          go_wp2_with (first
            | (go_at_call 11; refine hmd.out.mono ?_; rintro e w6 ⟨rfl, k6⟩; have C6 := Lib.hid (And.intro (H2.out.c.kept k6 (by simp)) (H2.out.k.then0 k6)); clear k6)
            | (refine wpl_store_arr arrB rfl (.tmp 4) (.tmp 59) rfl rfl rfl C6.out.1 rfl (by simp [le_len]) (one_ab _) ?_; intro w7 b7 k7))
          exact ret_arr arrB rfl rfl b7 (by simp [le_len]) rfl ⟨rfl, C6.out.2.then1 k7 hN.out.2.2⟩
end Go.Proofs.Ytfamfdihflkdpaa
