/-
  Scalars: words of bytes, bytes of words.
-/
import Derived.Test.YtfamfdihflkdpaaSc3
import Derived.Test.YtfamfdihflkdpaaMem2
namespace Go.Proofs.Ytfamfdihflkdpaa
open Go.RowKit Go.Mem

/-- The number of bytes, the least first. -/
def leV : List UInt8 → Nat
  | [] => 0
  | a :: l => a.toNat + 256 * leV l
theorem leV_lt : ∀ l : List UInt8, leV l < 256 ^ l.length
  | [] => by simp [leV]
  | a :: l => by
    have h := leV_lt l
    have ha := a.toNat_lt
    simp only [leV, List.length_cons, Nat.pow_succ]
    omega
theorem leV_snoc : ∀ (l : List UInt8) (b : UInt8), leV (l ++ [b]) = leV l + b.toNat * 256 ^ l.length
  | [], b => by simp [leV]
  | a :: l, b => by
    simp only [List.cons_append, leV, leV_snoc l b, List.length_cons, Nat.pow_succ]
    rw [Nat.mul_add, Nat.add_assoc]
    congr 2
    rw [Nat.mul_comm 256, Nat.mul_assoc]
theorem leV_take (l : List UInt8) (k : Nat) (h : k < l.length) : leV (l.take (k + 1)) = leV (l.take k) + l[k].toNat * 2 ^ (8 * k) := by
  rw [List.take_succ_eq_append_getElem h, leV_snoc, List.length_take, Nat.min_eq_left (by omega), show (256 : Nat) = 2 ^ 8 from rfl, ← Nat.pow_mul]
theorem leV_take_lt (l : List UInt8) (k : Nat) (h : k ≤ l.length) : leV (l.take k) < 2 ^ (8 * k) := by
  have := leV_lt (l.take k)
  rwa [List.length_take, Nat.min_eq_left h, show (256 : Nat) = 2 ^ 8 from rfl, ← Nat.pow_mul] at this

theorem wrd_new (V b k : Nat) (hV : V < 2 ^ (8 * k)) (hb : b < 256) :
    wrd V (k / 8) < 2 ^ (8 * (k % 8)) ∧ b * 2 ^ (8 * (k % 8)) < 18446744073709551616 ∧ wrd (V + b * 2 ^ (8 * k)) (k / 8) = wrd V (k / 8) + b * 2 ^ (8 * (k % 8)) := by
  have e : 8 * k = 64 * (k / 8) + 8 * (k % 8) := by omega
  unfold wrd
  rw [e, Nat.pow_add] at hV ⊢
  have hd : V / 2 ^ (64 * (k / 8)) < 2 ^ (8 * (k % 8)) := by
    rw [Nat.div_lt_iff_lt_mul (Nat.two_pow_pos _), Nat.mul_comm]; exact hV
  have h1 : (V + b * (2 ^ (64 * (k / 8)) * 2 ^ (8 * (k % 8)))) / 2 ^ (64 * (k / 8)) = V / 2 ^ (64 * (k / 8)) + b * 2 ^ (8 * (k % 8)) := by
    rw [Nat.mul_left_comm, Nat.add_mul_div_left _ _ (Nat.two_pow_pos _)]
  rw [h1]
  generalize V / 2 ^ (64 * (k / 8)) = U at *
  have hr : k % 8 = 0 ∨ k % 8 = 1 ∨ k % 8 = 2 ∨ k % 8 = 3 ∨ k % 8 = 4 ∨ k % 8 = 5 ∨ k % 8 = 6 ∨ k % 8 = 7 := by omega
  rcases hr with h | h | h | h | h | h | h | h <;> rw [h] at hd ⊢ <;> simp only [Nat.reduceMul, Nat.reducePow] at hd ⊢ <;> omega
theorem wrd_same (V b k i : Nat) (hV : V < 2 ^ (8 * k)) (hb : b < 256) (hi : i ≠ k / 8) : wrd (V + b * 2 ^ (8 * k)) i = wrd V i := by
  unfold wrd
  rcases Nat.lt_or_ge i (k / 8) with h | h
  · have e : 8 * k = 64 * i + (64 + (8 * k - 64 * i - 64)) := by omega
    rw [e, Nat.pow_add, Nat.mul_left_comm, Nat.add_mul_div_left _ _ (Nat.two_pow_pos _), Nat.pow_add, Nat.mul_left_comm]
    exact Nat.add_mul_mod_self_left _ _ _
  · have h2 : V + b * 2 ^ (8 * k) < 2 ^ (64 * i) := by
      have : 2 ^ (8 * k + 8) ≤ 2 ^ (64 * i) := Nat.pow_le_pow_right (by omega) (by omega)
      rw [Nat.pow_add] at this
      have h3 : b * 2 ^ (8 * k) ≤ 255 * 2 ^ (8 * k) := Nat.mul_le_mul_right _ (by omega)
      omega
    rw [Nat.div_eq_of_lt h2, Nat.div_eq_of_lt (by omega)]

/-- m words of a number. -/
def wds (V m : Nat) : List Nat := (List.range m).map (wrd V)
theorem wds_len (V m : Nat) : (wds V m).length = m := by simp [wds]
theorem wds_lt (V m : Nat) : ∀ z ∈ wds V m, z < 18446744073709551616 := by
  intro z hz
  obtain ⟨i, _, rfl⟩ := List.mem_map.1 hz
  exact wrd_lt _ _
theorem val_wds : ∀ (m V : Nat), val (wds V m) = V % 2 ^ (64 * m)
  | 0, V => by simp [wds, val, Nat.mod_one]
  | m + 1, V => by
    have h := val_wds m (V / 18446744073709551616)
    have e : wds V (m + 1) = wrd V 0 :: wds (V / 18446744073709551616) m := by
      unfold wds
      rw [List.range_succ_eq_map, List.map_cons, List.map_map]
      congr 1
      apply List.map_congr_left
      intro i _
      simp only [Function.comp_apply, wrd]
      rw [show 64 * (i.succ) = 64 + 64 * i from by omega, Nat.pow_add, ← Nat.div_div_eq_div_mul]
    rw [e, val, h, wrd0, show 64 * (m + 1) = 64 + 64 * m from by omega, Nat.pow_add]
    show _ = V % (18446744073709551616 * _)
    rw [Nat.mod_mul]
theorem wds4 (V : Nat) : wds V 4 = ws4 V := rfl
theorem wds_step {w : World} {g : Nat} {bt : TypeId} (bs : List UInt8) (m k : Nat) (hk : k < bs.length) (hm : bs.length = 8 * m) (h : Blk w g bt (uv (wds (leV (bs.take k)) m)).toArray) :
    Blk (w.setCell ⟨g, k / 8, none⟩ (.int .u64 (wrd (leV (bs.take (k + 1))) (k / 8) : Nat))) g bt (uv (wds (leV (bs.take (k + 1))) m)).toArray := by
  have := h.set_ (k / 8) (.int .u64 (wrd (leV (bs.take (k + 1))) (k / 8) : Nat))
  have e : (uv (wds (leV (bs.take k)) m)).toArray.setIfInBounds (k / 8) (.int .u64 (wrd (leV (bs.take (k + 1))) (k / 8) : Nat)) = (uv (wds (leV (bs.take (k + 1))) m)).toArray := by
    apply Array.ext_getElem?
    intro i
    rw [Array.getElem?_setIfInBounds]
    simp only [wds, List.map_map, List.size_toArray, List.length_map, List.length_range, List.getElem?_toArray, List.getElem?_map]
    by_cases hi : k / 8 = i
    · subst hi
      rw [if_pos rfl, if_pos (by omega), List.getElem?_range (by omega)]
      rfl
    · rw [if_neg hi]
      rcases Nat.lt_or_ge i m with h | h
      · rw [List.getElem?_range h]
        simp only [Option.map_some, Function.comp_apply]
        rw [leV_take bs k hk, wrd_same _ _ _ _ (leV_take_lt bs k (by omega)) (UInt8.toNat_lt _) (fun e => hi e.symm)]
      · rw [List.getElem?_eq_none (by simpa using h)]
        rfl
  rwa [e] at this
theorem wds_cell {w : World} {g : Nat} {bt : TypeId} (V m i : Nat) (hi : i < m) (h : Blk w g bt (uv (wds V m)).toArray) : w.cell? ⟨g, i, none⟩ = some (.int .u64 (wrd V i : Nat)) := by
  rw [h.cell]
  simp [wds, hi]

theorem or_new (a b s : Nat) (ha : a < 2 ^ s) (hb8 : b < 256) (hb : b * 2 ^ s < 18446744073709551616) (hs : 2 ^ s ≤ 18446744073709551616) : bits .or .u64 (a : Int) (IntKind.u64.wrap (IntKind.u64.wrap (b : Int) * 2 ^ s)) = ((a + b * 2 ^ s : Nat) : Int) := by
  have e0 : IntKind.u64.wrap (b : Int) = (b : Int) := by rw [IntKind.wrap_u64]; omega
  rw [e0]
  have e1 : IntKind.u64.wrap ((b : Int) * 2 ^ s) = ((b * 2 ^ s : Nat) : Int) := by
    rw [IntKind.wrap_u64]
    have : ((b : Int) * 2 ^ s) = ((b * 2 ^ s : Nat) : Int) := by simp
    rw [this]
    omega
  rw [e1, bits_or_u64_nat _ _ (by omega) hb]
  congr 1
  have := Nat.two_pow_add_eq_or_of_lt ha b
  rw [Nat.or_comm, Nat.mul_comm b, ← this, Nat.add_comm]

theorem sliceW : SliceT Try.prog 53 24 1 8 (.int .u64 0) := ⟨Try.underlying53, by kernel_rfl, rfl, by omega⟩

set_option maxHeartbeats 800000 in
theorem words_any (v : Value) (bs : List UInt8) (m : Nat) (w : World) (hr : Rd w 1 v bs.length (bv bs)) (hm : bs.length = 8 * m) (hm8 : m ≤ 8) :
    Calls Try.prog 26 #[v] w fun e w' => ∃ g, e = .returned (.slice (some ⟨g, 0, none⟩) m m) ∧ Blk w' g 24 (uv (wds (leV bs) m)).toArray ∧ Kept [] w w' ∧ w.heap.size ≤ g := by
  have hr2 := Lib.hid hr
  have hm2 := Lib.hid hm
  obtain ⟨A, c, rfl, _, _, _⟩ := hr
  have hdiv : ((bs.length : Nat) : Int) / 8 = (m : Int) := by omega
  have hmk := fun W => run_mk sliceW m (by omega) (by omega) W
  have hbl : bs.length ≤ 64 := by omega
  clear hm
  go_enter Try.func26, Try.ntmps26
  go_wp2_with fail
  have mk : Made w (w.alloc (.cells (madeCells #[.int .u64 0] m) 24)) w.heap.size 24 (uv (wds (leV (bs.take 0)) m)).toArray := by
    have hz : madeCells #[.int .u64 0] m = (uv (wds 0 m)).toArray := by
      have := made_list (.int .u64 0) m
      have h2 : uv (wds 0 m) = List.replicate m (.int .u64 0) := by
        apply List.ext_getElem
        · simp [wds]
        · intro i h1 h2; simp [wds, wrd]
      rw [h2, ← this]
    refine ⟨?_, (Kept.refl [] w).alloc _, Nat.le_refl _⟩
    rw [hz]
    exact Blk.new _ _ _
  generalize hg : w.heap.size = g at *
  generalize (w.alloc (.cells (madeCells #[.int .u64 0] m) 24)) = w1 at *
  have M := Lib.hid mk
  have hr3 := Lib.hid (hr2.out.kept0 mk.kept)
  have far := Lib.hid (show ∀ W, Kept [g] w1 W → Rd W 1 (.slice A bs.length c) bs.length (bv bs) from fun W hW => hr3.out.kept hW (fun hn b hb hmem => by
    obtain ⟨b', hb', hlt⟩ := hr2.out.lt (by omega) hn
    rw [hb] at hb'; cases hb'
    have : b = g := by simpa using hmem
    omega))
  clear mk hg
  go_loopg [12] bs.length (fun f i wk => ∃ k : Nat, k ≤ bs.length ∧ f + k = bs.length ∧ i = .int .i64 k ∧ Blk wk g 24 (uv (wds (leV (bs.take k)) m)).toArray ∧ Kept [g] w1 wk)
  case atStart => exact ⟨0, Nat.zero_le _, rfl, rfl, M.out.blk, Kept.refl _ _⟩
  case round =>
    obtain ⟨k, hk, hf, rfl, hb, hkw⟩ := hrel
    by_cases hlt : k < bs.length
    · obtain ⟨xb, xo, xc, hxe, _, hcell⟩ := (far.out _ hkw).at_ (by omega)
      cases hxe
      have c0 := hcell k (byteV bs[k]) (by simp [hlt])
      unfold byteV at c0
      have hV := leV_take_lt bs k hk
      obtain ⟨n1, n2, n3⟩ := wrd_new (leV (bs.take k)) bs[k].toNat k hV (UInt8.toNat_lt _)
      have c1 := wds_cell (leV (bs.take k)) m (k / 8) (by have := hm2.out; omega) hb
      have hfz := hb.frozen (k / 8)
      have hor := or_new (wrd (leV (bs.take k)) (k / 8)) bs[k].toNat (8 * (k % 8)) n1 (UInt8.toNat_lt _) n2 (Nat.pow_le_pow_right (n := 2) (j := 64) (by omega) (by omega))
      rw [← n3, ← leV_take bs k hlt] at hor
      have hst2 := Lib.hid (wds_step bs m k hlt hm2.out hb)
      have hk2 := Lib.hid (hkw.setCell (p := ⟨g, k / 8, none⟩) (.inl (by simp)) (Value.int .u64 (wrd (leV (bs.take (k + 1))) (k / 8) : Nat)))
      have hq : k / 8 < m := by have := hm2.out; omega
      clear hcell hV n1 n2 n3 hb hkw
      go_wp2_with fail
      go_roundg (bs.length - (k + 1))
      case measure => omega
      case rel => exact ⟨k + 1, by omega, by omega, by go_num, hst2.out, hk2.out⟩
    · obtain rfl : k = bs.length := by omega
      have hb2 := Lib.hid hb
      have hk2 := Lib.hid hkw
      clear hb hkw
      rw [List.take_length] at hb2
      go_wp2_with fail
      go_ret
      exact ⟨g, rfl, hb2.out, M.out.kept.then1 hk2.out M.out.le, M.out.le⟩
end Go.Proofs.Ytfamfdihflkdpaa
