/-
  Field: what roots come to.
  Field: numbers of bytes: the plain law.
  Field: numbers of bytes: the walk.
  Words for memory: a part of a block, read by value.
  The curve: words for the walks.
  The curve: a sum: the walk.
  The curve: points of coordinates; equality of points; the neutral point in the place of the zero value.
  The curve: twice a point: the walk.
  The curve: elements of bytes, sums, negatives, bytes of points.
  The curve: elements of bytes, the curve's numbers, the base point; sums and negatives.
-/
import Derived.Test.YtkflljjcgihaoaaFe19
import Derived.Test.YtkflljjcgihaoaaFe10
import Derived.Deep.MidRow
import Derived.DeepKeys
namespace Go.Proofs.Ytkflljjcgihaoaa
open Go.RowKit Go.Mem Go.Txt

theorem Rep.small (v : Nat) (h : v < 18446744073709551616) : Rep (smL v) v := by
  refine ⟨fun i _ => ?_, by rw [small_val]⟩
  unfold smL
  split
  · omega
  · split <;> omega
def wM (u v : Nat) : Nat := mlM u (invM v)
def x1M (u v : Nat) : Nat := if mlM (tryM (wM u v)) (tryM (wM u v)) % PP = wM u v % PP then tryM (wM u v) else mlM (tryM (wM u v)) M1
def okM (u v : Nat) : Bool := decide (v % PP ≠ 0) && decide (mlM (x1M u v) (x1M u v) % PP = wM u v % PP)
def negM (x : Nat) : Nat := PP - x % PP
/-- The root that is told. -/
def rtM (u v : Nat) : Nat := if x1M u v % PP % 2 = 1 then negM (x1M u v) else x1M u v
theorem Rep.w {U V : Nat → Nat} {u v : Nat} (hu : Rep U u) (hv : Rep V v) : Rep (rtW U V) (wM u v) := hu.ml hv.inv
theorem Rep.x1 {U V : Nat → Nat} {u v : Nat} (hu : Rep U u) (hv : Rep V v) : Rep (rtX U V) (x1M u v) := by
  have hw := hu.w hv
  have hs := (hw.try).ml (hw.try)
  have hm := (hw.try).ml rep_m1
  unfold rtX x1M
  rw [hs.val, hw.val]
  split
  · exact hw.try
  · exact hm
theorem Rep.ok {U V : Nat → Nat} {u v : Nat} (hu : Rep U u) (hv : Rep V v) : rtB U V = okM u v := by
  have hw := hu.w hv
  have hx := hu.x1 hv
  unfold rtB okM
  rw [hv.val, hw.val, (hx.ml hx).val]
theorem Rep.neg {F : Nat → Nat} {x : Nat} (h : Rep F x) : Rep (carL (subL nought F)) (negM x) := by
  refine Rep.sub (x := 0) ⟨nought_lim, by unfold fv nought; simp⟩ h ?_
  unfold negM
  have hp := PP_pos
  have hm := Nat.mod_lt x hp
  have hd := Nat.div_add_mod x PP
  rw [show PP - x % PP + x = PP * (1 + x / PP) from by rw [Nat.mul_add]; omega, Nat.mul_mod_right, Nat.zero_mod]
theorem Rep.rt {U V : Nat → Nat} {u v : Nat} (hu : Rep U u) (hv : Rep V v) (hok : okM u v = true) : Rep (rtF U V) (rtM u v) := by
  have hx := hu.x1 hv
  unfold rtF rtM
  rw [hu.ok hv, hok, if_pos rfl, hx.val]
  split
  · exact hx.neg
  · exact hx
theorem rtF_no {U V : Nat → Nat} {u v : Nat} (hu : Rep U u) (hv : Rep V v) (hok : okM u v = false) : rtF U V = nought := by
  unfold rtF
  rw [hu.ok hv, hok]; rfl
theorem root_yes {U V : Nat → Nat} {u v : Nat} (hu : Rep U u) (hv : Rep V v) (hok : okM u v = true) (w : World) : Calls Try.prog 35 #[el U, el V] w fun e w' => e = .returned (.tuple #[el (rtF U V), .bool true]) ∧ Kept [] w w' := by
  have := root_any U V hu.lim hv.lim w
  rwa [hu.ok hv, hok] at this
theorem root_no {U V : Nat → Nat} {u v : Nat} (hu : Rep U u) (hv : Rep V v) (hok : okM u v = false) (w : World) : Calls Try.prog 35 #[el U, el V] w fun e w' => e = .returned (.tuple #[el nought, .bool false]) ∧ Kept [] w w' := by
  have := root_any U V hu.lim hv.lim w
  rwa [rtF_no hu hv hok, hu.ok hv, hok] at this
theorem hash_rep {F : Nat → Nat} {x y : Nat} (h : Rep F x) (e : x % PP = y) (w : World) : Calls Try.prog 39 #[el F] w fun e w' => e = .returned (ab (le y 32)) ∧ Kept [] w w' := by
  have := fhash_any F w h.lim
  rwa [h.val, e] at this
theorem ok41 : okM 4 1 = true := by decide +kernel
theorem rt41 : rtM 4 1 % PP = 2 := by decide +kernel
theorem ok21 : okM 2 1 = false := by decide +kernel
theorem inv2 : mlM 2 (invM 2) % PP = 1 := by decide +kernel
end Go.Proofs.Ytkflljjcgihaoaa

namespace Go.Proofs.Ytkflljjcgihaoaa
open Go.RowKit Go.Mem Go.Txt

theorem wrd_new (V b k : Nat) (hV : V < 2 ^ (8 * k)) (hb : b < 256) :
    wrd V (k / 8) < 2 ^ (8 * (k % 8)) ∧ b * 2 ^ (8 * (k % 8)) < 18446744073709551616 ∧ wrd (V + b * 2 ^ (8 * k)) (k / 8) = wrd V (k / 8) + b * 2 ^ (8 * (k % 8)) := by
  have e : 8 * k = 64 * (k / 8) + 8 * (k % 8) := by omega
  unfold wrd
  rw [e, Nat.pow_add] at hV ⊢
  have hd : V / 2 ^ (64 * (k / 8)) < 2 ^ (8 * (k % 8)) := by
    rw [Nat.div_lt_iff_lt_mul (Nat.two_pow_pos _), Nat.mul_comm]; exact hV
  have h1 : (V + b * (2 ^ (64 * (k / 8)) * 2 ^ (8 * (k % 8)))) / 2 ^ (64 * (k / 8)) = V / 2 ^ (64 * (k / 8)) + b * 2 ^ (8 * (k % 8)) := by
    rw [Nat.mul_left_comm, Nat.add_mul_div_left _ _ (Nat.two_pow_pos _)]
  rw [h1]
  generalize V / 2 ^ (64 * (k / 8)) = U at *
  have hr : k % 8 = 0 ∨ k % 8 = 1 ∨ k % 8 = 2 ∨ k % 8 = 3 ∨ k % 8 = 4 ∨ k % 8 = 5 ∨ k % 8 = 6 ∨ k % 8 = 7 := by omega
  rcases hr with h | h | h | h | h | h | h | h <;> rw [h] at hd ⊢ <;> simp only [Nat.reduceMul, Nat.reducePow] at hd ⊢ <;> omega
theorem wrd_same (V b k i : Nat) (hV : V < 2 ^ (8 * k)) (hb : b < 256) (hi : i ≠ k / 8) : wrd (V + b * 2 ^ (8 * k)) i = wrd V i := by
  unfold wrd
  rcases Nat.lt_or_ge i (k / 8) with h | h
  · have e : 8 * k = 64 * i + (64 + (8 * k - 64 * i - 64)) := by omega
    rw [e, Nat.pow_add, Nat.mul_left_comm, Nat.add_mul_div_left _ _ (Nat.two_pow_pos _), Nat.pow_add, Nat.mul_left_comm]
    exact Nat.add_mul_mod_self_left _ _ _
  · have h2 : V + b * 2 ^ (8 * k) < 2 ^ (64 * i) := by
      have : 2 ^ (8 * k + 8) ≤ 2 ^ (64 * i) := Nat.pow_le_pow_right (by omega) (by omega)
      rw [Nat.pow_add] at this
      have h3 : b * 2 ^ (8 * k) ≤ 255 * 2 ^ (8 * k) := Nat.mul_le_mul_right _ (by omega)
      omega
    rw [Nat.div_eq_of_lt h2, Nat.div_eq_of_lt (by omega)]
theorem or_new (a b s : Nat) (ha : a < 2 ^ s) (hb8 : b < 256) (hb : b * 2 ^ s < 18446744073709551616) (hs : 2 ^ s ≤ 18446744073709551616) : bits .or .u64 (a : Int) (IntKind.u64.wrap (IntKind.u64.wrap (b : Int) * 2 ^ s)) = ((a + b * 2 ^ s : Nat) : Int) := by
  have e0 : IntKind.u64.wrap (b : Int) = (b : Int) := by rw [IntKind.wrap_u64]; omega
  rw [e0]
  have e1 : IntKind.u64.wrap ((b : Int) * 2 ^ s) = ((b * 2 ^ s : Nat) : Int) := by
    rw [IntKind.wrap_u64]
    have : ((b : Int) * 2 ^ s) = ((b * 2 ^ s : Nat) : Int) := by simp
    rw [this]
    omega
  rw [e1, bits_or_u64_nat _ _ (by omega) hb]
  congr 1
  have := Nat.two_pow_add_eq_or_of_lt ha b
  rw [Nat.or_comm, Nat.mul_comm b, ← this, Nat.add_comm]
/-- The words of the first k bytes. -/
theorem wd_step {w : World} {g : Nat} {bt : TypeId} (bs : List UInt8) (k : Nat) (hk : k < bs.length) (hl : bs.length = 32) (h : Blk w g bt (uv (fam 4 (wrd (leV (bs.take k))))).toArray) :
    Blk (w.setCell ⟨g, k / 8, none⟩ (.int .u64 (wrd (leV (bs.take (k + 1))) (k / 8) : Nat))) g bt (uv (fam 4 (wrd (leV (bs.take (k + 1)))))).toArray := by
  have := h.fset (v := fun z : Nat => Value.int .u64 (z : Int)) (k / 8) (wrd (leV (bs.take (k + 1))) (k / 8))
  have e : fam 4 (fun j => if j = k / 8 then wrd (leV (bs.take (k + 1))) (k / 8) else wrd (leV (bs.take k)) j) = fam 4 (wrd (leV (bs.take (k + 1)))) := fam_ext 4 fun j _ => by
    by_cases hj : j = k / 8
    · subst hj; rw [if_pos rfl]
    · rw [if_neg hj, leV_take bs k hk, wrd_same _ _ _ _ (leV_take_lt bs k (by omega)) (UInt8.toNat_lt _) hj]
  rwa [e] at this

/-- The limbs of a number. -/
def nwL (X i : Nat) : Nat := X / 2 ^ (51 * i) % 2251799813685248
theorem nwL_lim (X : Nat) : Lim (nwL X) := fun i _ => by
  have : nwL X i < 2251799813685248 := Nat.mod_lt _ (by decide)
  omega
theorem nwL_at (X : Nat) : nwL X 0 = X % 2251799813685248 ∧ nwL X 1 = X / 2251799813685248 % 2251799813685248 ∧ nwL X 2 = X / 5070602400912917605986812821504 % 2251799813685248 ∧ nwL X 3 = X / 11417981541647679048466287755595961091061972992 % 2251799813685248 ∧ nwL X 4 = X / 25711008708143844408671393477458601640355247900524685364822016 % 2251799813685248 :=
  ⟨by rw [nwL]; simp, rfl, rfl, rfl, rfl⟩
theorem nwL_val (X : Nat) : fv (nwL X) = X % T255 := by
  obtain ⟨h0, h1, h2, h3, h4⟩ := nwL_at X
  unfold fv
  rw [h0, h1, h2, h3, h4]
  unfold T255
  omega
theorem or_cut (a c P Q s : Nat) (hP : P = 2 ^ s) (hPQ : P * Q = 18446744073709551616) (ha : a < P) (h64 : P ≤ 18446744073709551616) : bits .or .u64 (a : Int) (IntKind.u64.wrap ((c : Int) * (P : Nat))) = ((a + P * (c % Q) : Nat) : Int) := by
  have hq : 0 < Q := Nat.pos_of_ne_zero fun e => by rw [e] at hPQ; simp at hPQ
  have e : IntKind.u64.wrap ((c : Int) * (P : Nat)) = ((P * (c % Q) : Nat) : Int) := by
    rw [← Int.natCast_mul, wrap_nat, ← hPQ, Nat.mul_comm c P, Nat.mul_mod_mul_left]
  have hlt : P * (c % Q) < 18446744073709551616 := by
    rw [← hPQ]; exact Nat.mul_lt_mul_of_pos_left (Nat.mod_lt _ hq) (by omega)
  rw [e]
  exact or_up a (c % Q) s P hP ha (by omega) hlt
theorem limb0 (X : Nat) : bits .and .u64 ((wrd X 0 : Nat) : Int) 2251799813685247 = ((nwL X 0 : Nat) : Int) := by
  rw [and51 _ (wrd_lt _ _), (nwL_at X).1]
  congr 1
  show X / 2 ^ (64 * 0) % 18446744073709551616 % 2251799813685248 = _
  simp only [Nat.mul_zero, Nat.pow_zero, Nat.div_one]
  omega
theorem wrd_at (X : Nat) : wrd X 0 = X % 18446744073709551616 ∧ wrd X 1 = X / 18446744073709551616 % 18446744073709551616 ∧ wrd X 2 = X / 340282366920938463463374607431768211456 % 18446744073709551616 ∧ wrd X 3 = X / 6277101735386680763835789423207666416102355444464034512896 % 18446744073709551616 :=
  ⟨by rw [wrd]; simp, rfl, rfl, rfl⟩
theorem limb1 (X : Nat) : bits .and .u64 (bits .or .u64 (((wrd X 0 : Nat) : Int) / 2251799813685248) (IntKind.u64.wrap (((wrd X 1 : Nat) : Int) * 8192))) 2251799813685247 = ((nwL X 1 : Nat) : Int) := by
  obtain ⟨h0, h1, _, _⟩ := wrd_at X
  have hlt := wrd_lt X 0
  rw [show ((wrd X 0 : Nat) : Int) / 2251799813685248 = ((wrd X 0 / 2251799813685248 : Nat) : Int) from by omega,
    show (((wrd X 1 : Nat) : Int) * 8192) = ((wrd X 1 : Nat) : Int) * ((8192 : Nat) : Int) from rfl, or_cut _ _ 8192 2251799813685248 13 rfl rfl (by omega) (by omega),
    and51 _ (by omega), (nwL_at X).2.1, h0, h1]
  congr 1
  omega
theorem limb2 (X : Nat) : bits .and .u64 (bits .or .u64 (((wrd X 1 : Nat) : Int) / 274877906944) (IntKind.u64.wrap (((wrd X 2 : Nat) : Int) * 67108864))) 2251799813685247 = ((nwL X 2 : Nat) : Int) := by
  obtain ⟨_, h1, h2, _⟩ := wrd_at X
  have hlt := wrd_lt X 1
  rw [show ((wrd X 1 : Nat) : Int) / 274877906944 = ((wrd X 1 / 274877906944 : Nat) : Int) from by omega,
    show (((wrd X 2 : Nat) : Int) * 67108864) = ((wrd X 2 : Nat) : Int) * ((67108864 : Nat) : Int) from rfl, or_cut _ _ 67108864 274877906944 26 rfl rfl (by omega) (by omega),
    and51 _ (by omega), (nwL_at X).2.2.1, h1, h2]
  congr 1
  omega
theorem limb3 (X : Nat) : bits .and .u64 (bits .or .u64 (((wrd X 2 : Nat) : Int) / 33554432) (IntKind.u64.wrap (((wrd X 3 : Nat) : Int) * 549755813888))) 2251799813685247 = ((nwL X 3 : Nat) : Int) := by
  obtain ⟨_, _, h2, h3⟩ := wrd_at X
  have hlt := wrd_lt X 2
  rw [show ((wrd X 2 : Nat) : Int) / 33554432 = ((wrd X 2 / 33554432 : Nat) : Int) from by omega,
    show (((wrd X 3 : Nat) : Int) * 549755813888) = ((wrd X 3 : Nat) : Int) * ((549755813888 : Nat) : Int) from rfl, or_cut _ _ 549755813888 33554432 39 rfl rfl (by omega) (by omega),
    and51 _ (by omega), (nwL_at X).2.2.2.1, h2, h3]
  congr 1
  omega
theorem limb4 (X : Nat) : bits .and .u64 (((wrd X 3 : Nat) : Int) / 4096) 2251799813685247 = ((nwL X 4 : Nat) : Int) := by
  obtain ⟨_, _, _, h3⟩ := wrd_at X
  have hlt := wrd_lt X 3
  rw [show ((wrd X 3 : Nat) : Int) / 4096 = ((wrd X 3 / 4096 : Nat) : Int) from by omega, and51 _ (by omega), (nwL_at X).2.2.2.2, h3]
  congr 1
  omega
theorem le_beq2 (x y : Nat) (hx : x < 2 ^ (8 * 32)) (hy : y < 2 ^ (8 * 32)) : (le x 32 == le y 32) = decide (x = y) := le_inj hx hy
/-- Is it below p? -/
def newB (bs : List UInt8) : Bool := decide (leV bs < PP)
def newF (bs : List UInt8) : Nat → Nat := if newB bs then nwL (leV bs) else nought
theorem newF_lim (bs : List UInt8) : Lim (newF bs) := by
  unfold newF
  split
  · exact nwL_lim _
  · exact nought_lim
theorem new_val (bs : List UInt8) (h : newB bs = true) : fv (newF bs) = leV bs := by
  have hlt : leV bs < PP := of_decide_eq_true h
  unfold newF
  rw [h, if_pos rfl, nwL_val, Nat.mod_eq_of_lt]
  unfold PP at hlt
  unfold T255
  omega
end Go.Proofs.Ytkflljjcgihaoaa

namespace Go.Mem
open Go.RowKit
theorem exec_cell {P : Program} {u : World} {a : Act} {o : Oper} {t : TypeId} (x : Operand) (ho : o.op = .load t x) (hs : ∀ w, (isAgg t).run P w = .ok false w) {p : Addr} (hx : a.eval x = .pointer (some p)) {v : Value} (hc : u.cell? p = some v) :
    (execOp a.eval o).run P u = .ok (.value v) u := by
  have h2 : (isAgg t).run P u = .ok false u := hs u
  simp [execOp, ho, hx, Instr.loadAt, Instr.sureAddr, loadVar, h2, hc]
end Go.Mem
namespace Go.Proofs.Ytkflljjcgihaoaa
open Go.RowKit Go.Mem Go.Txt

theorem flat64 (w : World) : (isAgg 24).run Try.prog w = .ok false w := by kernel_rfl
/-- What lies in memory. -/
structure NewM (w0 : World) (g1 g2 g4 g7 : Nat) (bs : List UInt8) (X : Nat) (L : Nat → Nat) (u : World) : Prop where
  b : Blk u g1 22 (bv bs).toArray
  r : Blk u g2 27 (uv (fam 5 nought)).toArray
  wd : Blk u g4 61 (uv (fam 4 (wrd X))).toArray
  x : Blk u g7 27 (uv (fam 5 L)).toArray
  k : Kept [] w0 u
theorem NewM.kept {w0 : World} {g1 g2 g4 g7 : Nat} {bs : List UInt8} {X : Nat} {L : Nat → Nat} {u u' : World} (h : NewM w0 g1 g2 g4 g7 bs X L u) (hk : Kept [] u u') : NewM w0 g1 g2 g4 g7 bs X L u' :=
  ⟨h.b.kept hk (by simp), h.r.kept hk (by simp), h.wd.kept hk (by simp), h.x.kept hk (by simp), h.k.then0 hk⟩

set_option maxRecDepth 100000 in
set_option maxHeartbeats 4000000 in
theorem new_any (bs : List UInt8) (hl : bs.length = 32) (w : World) :
    Calls Try.prog 32 #[ab bs] w fun e w' => e = .returned (.tuple #[el (newF bs), .bool (newB bs)]) ∧ Kept [] w w' := by
  have hX := leV_lt2 bs
  rw [hl] at hX
  have hX2 := Lib.hid hX
  have hlh := Lib.hid hl
  have hbl : (bv bs).length = 32 := by simp [hl]
  have hbl2 := Lib.hid hbl
  clear hX hbl
  obtain ⟨ok, hok⟩ : ∃ b, b = newB bs := ⟨_, rfl⟩
  obtain ⟨FF, hFF⟩ : ∃ F, F = newF bs := ⟨_, rfl⟩
  rw [← hok, ← hFF]
  have R0 := Lib.hid (And.intro hok hFF)
  clear hok hFF
  go_enter Try.func32, Try.ntmps32
  go_wp2_with (first
    | ((with_reducible refine wpl_box (o := ⟨some 1, _, _, _, _, _⟩) (v := ab bs) rfl (.tmp 0) rfl rfl ?_); intro g1 w1 m1)
    | ((with_reducible refine wpl_new (o := ⟨some 2, _, _, _, _, _⟩) rfl rfl zeroEl ?_); intro g2 w2 m2)
    | ((with_reducible refine wpl_new (o := ⟨some 4, _, _, _, _, _⟩) rfl rfl zeroW ?_); intro g4 w3 m3)
    | (refine wpl_load_arr arrB rfl (.tmp 1) rfl rfl ((m1.blk.kept m2.kept (by simp)).kept m3.kept (by simp)) hbl2.out ?_))
  have B1 := Lib.hid ((m1.blk.kept m2.kept (by simp)).kept m3.kept (by simp))
  have B2 := Lib.hid (m2.blk.kept m3.kept (by simp))
  have B4 := Lib.hid (show Blk w3 g4 61 (uv (fam 4 (wrd (leV (bs.take 0))))).toArray from by rw [List.take_zero]; exact m3.blk)
  have K := Lib.hid ((m1.kept.then0 m2.kept).then0 m3.kept)
  have D := Lib.hid (show w.heap.size ≤ g2 ∧ w.heap.size ≤ g4 ∧ g1 ≠ g4 ∧ g2 ≠ g4 from ⟨Nat.le_trans m1.kept.size m2.le, Nat.le_trans (m1.kept.then0 m2.kept).size m3.le, m3.ne (m2.kept.lt m1.blk.lt), m3.ne m2.blk.lt⟩)
  clear m1 m2 m3
  go_loopg [9] 32 (fun f i wk => ∃ k : Nat, k ≤ 32 ∧ f + k = 32 ∧ i = .int .i64 k ∧ Blk wk g4 61 (uv (fam 4 (wrd (leV (bs.take k))))).toArray ∧ Kept [g4] w3 wk)
  case atStart => exact ⟨0, Nat.zero_le _, rfl, rfl, B4.out, Kept.refl _ _⟩
  case round =>
    obtain ⟨k, hk, hf, rfl, hb, hkw⟩ := hrel
    by_cases hlt : k < 32
    · have hkl : k < bs.length := by rw [hl]; exact hlt
      have hi : ∀ W, (Instr.index 22 (ab bs) (.int .i64 k)).run Try.prog W = .ok (.int .u8 ((bs[k].toNat : Nat) : Int)) W := fun W =>
        run_index_arr arrB Try.underlying5 rfl (by kernel_rfl) .i64 k hlt (by simp [bv, byteV, hkl]) W
      have hV := leV_take_lt bs k (by omega)
      obtain ⟨n1, n2, n3⟩ := wrd_new (leV (bs.take k)) bs[k].toNat k hV (UInt8.toNat_lt _)
      have hq : k / 8 < 4 := by omega
      have c1 := Blk.fget (v := fun z : Nat => Value.int .u64 (z : Int)) hb (k / 8) hq
      have hfz := hb.frozen (k / 8)
      have hor := or_new (wrd (leV (bs.take k)) (k / 8)) bs[k].toNat (8 * (k % 8)) n1 (UInt8.toNat_lt _) n2 (Nat.pow_le_pow_right (n := 2) (j := 64) (by omega) (by omega))
      rw [← n3, ← leV_take bs k hkl] at hor
      have hst2 := Lib.hid (wd_step bs k hkl hl hb)
      have hk2 := Lib.hid (hkw.setCell (p := ⟨g4, k / 8, none⟩) (.inl (by simp)) (Value.int .u64 (wrd (leV (bs.take (k + 1))) (k / 8) : Nat)))
      clear hV n1 n2 n3 hb hkw hl
      go_wp2_with fail
      go_roundg (32 - (k + 1))
      case measure => omega
      case rel => exact ⟨k + 1, by omega, by omega, by go_num, hst2.out, hk2.out⟩
    · obtain rfl : k = 32 := by omega
      rw [List.take_of_length_le (by omega)] at hb
      have B1 := Lib.hid (B1.out.kept hkw (by have := D.out.2.2.1; simpa using this))
      have B2 := Lib.hid (B2.out.kept hkw (by have := D.out.2.2.2; simpa using this))
      have K := Lib.hid (K.out.then1 hkw D.out.2.1)
      have B4 := Lib.hid hb
      clear hb hkw hlt hk hf
      have hle := le_leV bs
      rw [hl] at hle
      clear hl
      have hv := nwL_val (leV bs)
      have ha : HaC (nwL (leV bs)) (leV bs % T255 % PP) := fun W => by
        have := fhash_any (nwL (leV bs)) W (nwL_lim _)
        rwa [hv] at this
      clear hv
      have hQ : ∀ V, leV bs = V → (le (V % PP) 32 == bs) = decide (V < PP) := fun V e => by
        rw [← hle, e, le_beq2 _ _ (Nat.lt_of_lt_of_le (Nat.mod_lt _ PP_pos) (by decide +kernel)) (by rw [← e]; exact hX2.out)]
        rw [decide_eq_decide]
        have := Nat.mod_lt V PP_pos
        exact ⟨fun h => by omega, fun h => Nat.mod_eq_of_lt h⟩
      have l0 := limb0 (leV bs)
      have l1 := limb1 (leV bs)
      have l2 := limb2 (leV bs)
      have l3 := limb3 (leV bs)
      have l4 := limb4 (leV bs)
      have c0 := Blk.fget (v := fun z : Nat => Value.int .u64 (z : Int)) B4.out 0 (by omega)
      have c1 := Blk.fget (v := fun z : Nat => Value.int .u64 (z : Int)) B4.out 1 (by omega)
      have c2 := Blk.fget (v := fun z : Nat => Value.int .u64 (z : Int)) B4.out 2 (by omega)
      have c3 := Blk.fget (v := fun z : Nat => Value.int .u64 (z : Int)) B4.out 3 (by omega)
      have hw3 := (wrd_at (leV bs)).2.2.2
      have b0 := wrd_lt (leV bs) 0
      have b1 := wrd_lt (leV bs) 1
      have b2 := wrd_lt (leV bs) 2
      have b3 := wrd_lt (leV bs) 3
      have hXl := hX2.out
      obtain ⟨V, hVe⟩ : ∃ V, V = leV bs := ⟨_, rfl⟩
      have hQ := Lib.hid (hQ V hVe.symm)
      have R0 := R0.out
      have R1 := Lib.hid (show ok = decide (V < PP) ∧ FF = if decide (V < PP) = true then nwL V else nought from ⟨by rw [R0.1, hVe]; rfl, by rw [R0.2, hVe]; rfl⟩)
      clear R0
      rw [← hVe] at l0 l1 l2 l3 l4 c0 c1 c2 c3 hw3 b0 b1 b2 b3 hXl ha B4
      have hT : Hid ((wrd V 3 / 9223372036854775808 = 1 ∧ ¬ V < PP) ∨ (wrd V 3 / 9223372036854775808 = 0 ∧ V % T255 = V)) := Lib.hid (by
        clear l0 l1 l2 l3 l4 c0 c1 c2 c3 ha hQ
        rw [hw3]
        unfold PP T255
        omega)
      clear hw3 hle hXl
      replace hVe := Lib.hid hVe
      generalize nwL V = L at *
      generalize wrd V 0 = x0, wrd V 1 = x1, wrd V 2 = x2 at c0 c1 c2 l0 l1 l2 l3 b0 b1 b2
      generalize hx3 : wrd V 3 = x3 at c3 l3 l4 b3 hT
      replace hx3 := Lib.hid hx3
      go_wp2_with (first
        | (with_reducible refine wpl_build1 (o := ⟨some 59, _, _, _, _, _⟩) rfl 0 (.tmp 58) rfl rfl (built_el L) ?_)
        | ((with_reducible refine wpl_new (o := ⟨some 7, _, _, _, _, _⟩) rfl rfl zeroEl ?_); intro g7 w7 m7)
        | ((with_reducible refine wpl_store_row (o := ⟨none, .store 27 (.tmp 7) (.tmp 59), _, _, _, _⟩) structEl rfl (.tmp 7) (.tmp 59) rfl rfl rfl m7.blk rfl rfl (one_el _) ?_); intro v7 b7 k7))
      have H := Lib.hid (show NewM w g1 g2 g4 g7 bs V L v7 from ⟨(B1.out.kept m7.kept (by simp)).kept k7 (by simpa using m7.ne B1.out.lt), (B2.out.kept m7.kept (by simp)).kept k7 (by simpa using m7.ne B2.out.lt), (B4.out.kept m7.kept (by simp)).kept k7 (by simpa using m7.ne B4.out.lt), b7, (K.out.then0 m7.kept).then1 k7 (Nat.le_trans K.out.size m7.le)⟩)
      clear m7 b7 k7 B1 B2 B4 K c0 c1 c2 c3 l0 l1 l2 l3 l4 b0 b1 b2
      rcases hT.out with ⟨ht, hn⟩ | ⟨ht, hv⟩
      · obtain ⟨rfl, rfl⟩ : ok = false ∧ FF = nought := by
          have := R1.out
          rw [decide_eq_false hn] at this
          exact ⟨this.1, this.2⟩
        have ht2 : ((x3 : Nat) : Int) / 9223372036854775808 = 1 := by omega
        have ha := Lib.hid ha
        clear ht hn hT R1 hQ
        refine Txt.wp_textG [1, 5, 7, 8] (NewM w g1 g2 g4 g7 bs V L) [[_, _, _, _, _, _, _], [_, _, _]] (by kernel_rfl) (by kernel_rfl) rfl (H.out.kept (Kept.refl [] _).drew) (Txt.segs_cons ?_)
        have H := Lib.hid (H.out.kept (Kept.refl [] v7).drew)
        have cc := Blk.fget (v := fun z : Nat => Value.int .u64 (z : Int)) H.out.wd 3 (by omega)
        rw [hx3.out] at cc
        go_wp2_with (first
          | (with_reducible refine wpl_load_row (o := ⟨some 65, _, _, _, _, _⟩) structEl rfl (.tmp 7) rfl rfl H.out.x rfl ?_)
          | (go_at_call 39; refine (ha.out _).mono ?_; rintro e u6 ⟨rfl, kk⟩; have H := Lib.hid (H.out.kept kk); clear kk))
        refine ⟨rfl, H.out, Txt.segs_cons ?_⟩
        go_wp2_with (refine wpl_load_arr arrB rfl (.tmp 1) rfl rfl H.out.b hbl2.out ?_)
        refine ⟨rfl, H.out, Txt.segs_nil ⟨⟨by kernel_rfl, ?_⟩, ?_⟩⟩
        · intro j hj o ho hw
          have hj2 : j = 1 ∨ j = 5 ∨ j = 7 ∨ j = 8 := by simpa using hj
          rcases hj2 with rfl | rfl | rfl | rfl <;> cases ho
          · exact ⟨61, rfl, fun u hu => exec_cell (.tmp 60) rfl flat64 rfl (by have := Blk.fget (v := fun z : Nat => Value.int .u64 (z : Int)) hu.wd 3 (by omega); rw [hx3.out] at this; exact this)⟩
          · exact absurd (hw : Region.wanted _ _ = true) (by rw [show Region.wanted _ _ = false from by kernel_rfl]; simp)
          · exact absurd (hw : Region.wanted _ _ = true) (by rw [show Region.wanted _ _ = false from by kernel_rfl]; simp)
          · exact absurd (hw : Region.wanted _ _ = true) (by rw [show Region.wanted _ _ = false from by kernel_rfl]; simp)
        go_wp2_with (first
          | (with_reducible refine wpl_build0 (o := ⟨some 70, _, _, _, _, _⟩) rfl rfl build_el ?_)
          | ((with_reducible refine wpl_store_row (o := ⟨none, .store 27 (.tmp 2) (.tmp 70), _, _, _, _⟩) structEl rfl (.tmp 2) (.tmp 70) rfl rfl rfl H.out.r rfl rfl (one_el _) ?_); intro v2 b2 k2))
        exact ret_row2 structEl rfl rfl b2 rfl rfl ⟨rfl, H.out.k.then1 k2 D.out.1⟩
      · have ht2 : ((x3 : Nat) : Int) / 9223372036854775808 = 0 := by omega
        rw [hv] at ha
        have ha := Lib.hid ha
        by_cases hp : V < PP
        · obtain ⟨rfl, rfl⟩ : ok = true ∧ FF = L := by
            have := R1.out
            rw [decide_eq_true hp] at this
            exact ⟨this.1, this.2⟩
          have hq := hQ.out
          rw [decide_eq_true hp] at hq
          have eqr := fun W => run_eqIn_ab arrB Try.underlying5 (by kernel_rfl) (le (V % PP) 32) bs (le_len _ _) hlh.out W
          rw [hq] at eqr
          replace hq := Lib.hid hq
          clear ht hv hp hT R1 hQ
          refine Txt.wp_textG [1, 5, 7, 8] (NewM w g1 g2 g4 g7 bs V FF) [[_, _, _, _, _, _, _], [_, _, _]] (by kernel_rfl) (by kernel_rfl) rfl (H.out.kept (Kept.refl [] _).drew) (Txt.segs_cons ?_)
          have H := Lib.hid (H.out.kept (Kept.refl [] v7).drew)
          have cc := Blk.fget (v := fun z : Nat => Value.int .u64 (z : Int)) H.out.wd 3 (by omega)
          rw [hx3.out] at cc
          go_wp2_with (first
            | (with_reducible refine wpl_load_row (o := ⟨some 65, _, _, _, _, _⟩) structEl rfl (.tmp 7) rfl rfl H.out.x rfl ?_)
            | (go_at_call 39; refine (ha.out _).mono ?_; rintro e u6 ⟨rfl, kk⟩; have H := Lib.hid (H.out.kept kk); clear kk))
          refine ⟨rfl, H.out, Txt.segs_cons ?_⟩
          go_wp2_with (refine wpl_load_arr arrB rfl (.tmp 1) rfl rfl H.out.b hbl2.out ?_)
          refine ⟨rfl, H.out, Txt.segs_nil ⟨⟨by kernel_rfl, ?_⟩, ?_⟩⟩
          · intro j hj o ho hw
            have hj2 : j = 1 ∨ j = 5 ∨ j = 7 ∨ j = 8 := by simpa using hj
            rcases hj2 with rfl | rfl | rfl | rfl <;> cases ho
            · exact ⟨61, rfl, fun u hu => exec_cell (.tmp 60) rfl flat64 rfl (by have := Blk.fget (v := fun z : Nat => Value.int .u64 (z : Int)) hu.wd 3 (by omega); rw [hx3.out] at this; exact this)⟩
            · exact ⟨65, rfl, fun u hu => exec_load structEl (.tmp 7) rfl rfl hu.x rfl⟩
            · exact ⟨67, rfl, fun u hu => exec_load arrB.row (.tmp 1) rfl rfl hu.b hbl2.out⟩
            · exact ⟨68, rfl, fun u _ => (exec_neq_ab arrB Try.underlying5 (by kernel_rfl) (by kernel_rfl) (.tmp 66) (.tmp 67) rfl (xs := le (V % PP) 32) (ys := bs) rfl rfl (le_len _ _) hlh.out).trans (by rw [hq.out]; rfl)⟩
          go_wp2_with (first
            | (with_reducible refine wpl_load_row (o := ⟨some 71, _, _, _, _, _⟩) structEl rfl (.tmp 7) rfl rfl H.out.x rfl ?_)
            | ((with_reducible refine wpl_store_row (o := ⟨none, .store 27 (.tmp 2) (.tmp 71), _, _, _, _⟩) structEl rfl (.tmp 2) (.tmp 71) rfl rfl rfl H.out.r rfl rfl (one_el _) ?_); intro v2 b2 k2))
          exact ret_row2 structEl rfl rfl b2 rfl rfl ⟨rfl, H.out.k.then1 k2 D.out.1⟩
        · obtain ⟨rfl, rfl⟩ : ok = false ∧ FF = nought := by
            have := R1.out
            rw [decide_eq_false hp] at this
            exact ⟨this.1, this.2⟩
          have hq := hQ.out
          rw [decide_eq_false hp] at hq
          have eqr := fun W => run_eqIn_ab arrB Try.underlying5 (by kernel_rfl) (le (V % PP) 32) bs (le_len _ _) hlh.out W
          rw [hq] at eqr
          replace hq := Lib.hid hq
          clear ht hv hp hT R1 hQ
          refine Txt.wp_textG [1, 5, 7, 8] (NewM w g1 g2 g4 g7 bs V L) [[_, _, _, _, _, _, _], [_, _, _]] (by kernel_rfl) (by kernel_rfl) rfl (H.out.kept (Kept.refl [] _).drew) (Txt.segs_cons ?_)
          have H := Lib.hid (H.out.kept (Kept.refl [] v7).drew)
          have cc := Blk.fget (v := fun z : Nat => Value.int .u64 (z : Int)) H.out.wd 3 (by omega)
          rw [hx3.out] at cc
          go_wp2_with (first
            | (with_reducible refine wpl_load_row (o := ⟨some 65, _, _, _, _, _⟩) structEl rfl (.tmp 7) rfl rfl H.out.x rfl ?_)
            | (go_at_call 39; refine (ha.out _).mono ?_; rintro e u6 ⟨rfl, kk⟩; have H := Lib.hid (H.out.kept kk); clear kk))
          refine ⟨rfl, H.out, Txt.segs_cons ?_⟩
          go_wp2_with (refine wpl_load_arr arrB rfl (.tmp 1) rfl rfl H.out.b hbl2.out ?_)
          refine ⟨rfl, H.out, Txt.segs_nil ⟨⟨by kernel_rfl, ?_⟩, ?_⟩⟩
          · intro j hj o ho hw
            have hj2 : j = 1 ∨ j = 5 ∨ j = 7 ∨ j = 8 := by simpa using hj
            rcases hj2 with rfl | rfl | rfl | rfl <;> cases ho
            · exact ⟨61, rfl, fun u hu => exec_cell (.tmp 60) rfl flat64 rfl (by have := Blk.fget (v := fun z : Nat => Value.int .u64 (z : Int)) hu.wd 3 (by omega); rw [hx3.out] at this; exact this)⟩
            · exact ⟨65, rfl, fun u hu => exec_load structEl (.tmp 7) rfl rfl hu.x rfl⟩
            · exact ⟨67, rfl, fun u hu => exec_load arrB.row (.tmp 1) rfl rfl hu.b hbl2.out⟩
            · exact ⟨68, rfl, fun u _ => (exec_neq_ab arrB Try.underlying5 (by kernel_rfl) (by kernel_rfl) (.tmp 66) (.tmp 67) rfl (xs := le (V % PP) 32) (ys := bs) rfl rfl (le_len _ _) hlh.out).trans (by rw [hq.out]; rfl)⟩
          go_wp2_with (first
            | (with_reducible refine wpl_build0 (o := ⟨some 70, _, _, _, _, _⟩) rfl rfl build_el ?_)
            | ((with_reducible refine wpl_store_row (o := ⟨none, .store 27 (.tmp 2) (.tmp 70), _, _, _, _⟩) structEl rfl (.tmp 2) (.tmp 70) rfl rfl rfl H.out.r rfl rfl (one_el _) ?_); intro v2 b2 k2))
          exact ret_row2 structEl rfl rfl b2 rfl rfl ⟨rfl, H.out.k.then1 k2 D.out.1⟩
end Go.Proofs.Ytkflljjcgihaoaa

namespace Go.Mem
open Go.RowKit

section
variable {P : Program} {w u : World} {ops : Array Oper} {rest : List Oper} {o : Oper} {a : Act} {Q : Exit → Act → World → Prop} {C : Act → World → Prop} {R : Exit → Act → World → Prop} {t bt : TypeId} {n g off : Nat} {cs : List Value}
theorem Blk.range {pre post : List Value} (h : Blk w g bt (pre ++ (cs ++ post)).toArray) (ho : pre.length = off) : w.rangeAt g off cs := fun j v hv => by
  subst ho
  have hj : j < cs.length := (List.getElem?_eq_some_iff.1 hv).1
  rw [h.cell, List.getElem?_toArray, List.getElem?_append_right (by omega), show pre.length + j - pre.length = j from by omega, List.getElem?_append_left hj]
  exact hv
theorem wp_loadp (T : RowT P t n) (x : Operand) (ho : o.op = .load t x) (hx : a.eval x = .pointer (some ⟨g, off, none⟩)) (hr : w.rangeAt g off cs) (hn : cs.length = n) (h : C (a.put o.dst (.agg cs.toArray)) w) : o.wp P a w C R := by
  obtain ⟨⟨d, hu, hd⟩, hs⟩ := T
  exact wp_load_mid t x ho g off hx cs d hr hu (by cases d <;> simp_all) (by rw [hs, hn]) h
theorem wpl_loadp (T : RowT P t n) (hgd : Region.wanted o (yielded ops a.tmps) = true) (x : Operand) (ho : o.op = .load t x) (hx : a.eval x = .pointer (some ⟨g, off, none⟩)) (hr : w.rangeAt g off cs) (hn : cs.length = n) (h : wpList P ops Q rest (a.put o.dst (.agg cs.toArray)) w) : wpList P ops Q (o :: rest) a w :=
  wpl_wanted hgd fun _ hK => wp_loadp T x ho hx hr hn (hK _ _ h)
theorem exec_loadp (T : RowT P t n) (x : Operand) (ho : o.op = .load t x) (hx : a.eval x = .pointer (some ⟨g, off, none⟩)) (hr : u.rangeAt g off cs) (hn : cs.length = n) : (execOp a.eval o).run P u = .ok (.value (.agg cs.toArray)) u := by
  obtain ⟨⟨d, hu, hd⟩, hs⟩ := T
  have := run_loadVar_mid (P := P) u g off t cs d hr hu (by cases d <;> simp_all) (by rw [hs, hn])
  simp [execOp, ho, hx, Instr.loadAt, Instr.sureAddr, this]
theorem wp_fieldp (x : Operand) {s f : Nat} (ho : o.op = .fieldAddr s x f) {v r : Value} (hx : a.eval x = v) (hr : ∀ W, (Instr.fieldAt s v f).run P W = .ok r W) (h : C (a.put o.dst r) w) : o.wp P a w C R := by
  unfold Oper.wp execOp
  simp only [ho, hx, Sem.run_bind, hr, Sem.run_pure, Result.andThen_ok]
  exact h
end
end Go.Mem

namespace Go.Proofs.Ytkflljjcgihaoaa
open Go.RowKit Go.Mem Go.Txt

abbrev SmC (v : Nat) (F : Nat → Nat) : Prop := ∀ W, Calls Try.prog 34 #[.int .u64 (v : Int)] W fun e w' => e = .returned (el F) ∧ Kept [] W w'
abbrev AdC (F G R : Nat → Nat) : Prop := ∀ W, Calls Try.prog 38 #[el F, el G] W fun e w' => e = .returned (el R) ∧ Kept [] W w'
def adF (F G : Nat → Nat) : Nat → Nat := carL (addL F G)
def suF (F G : Nat → Nat) : Nat → Nat := carL (subL F G)
theorem adF_lim {F G : Nat → Nat} (h : Lim F) (h2 : Lim G) : Lim (adF F G) := carL_lim _ fun i hi => by have := h i hi; have := h2 i hi; unfold addL; omega
theorem suF_lim {F G : Nat → Nat} (h : Lim F) (_ : Lim G) : Lim (suF F G) := carL_lim _ fun i hi => by have := h i hi; have := h 0 (by omega); unfold subL preL; split <;> omega
theorem ad_l {F G : Nat → Nat} (h : Lim F) (h2 : Lim G) : AdC F G (adF F G) := fun W => fadd_any F G W h h2
theorem su_l {F G : Nat → Nat} (h : Lim F) (h2 : Lim G) : SuC F G (suF F G) := fun W => fsub_any F G W h h2
theorem ml_l {F G : Nat → Nat} (h : Lim F) (h2 : Lim G) : MlC F G (mlF F G) := mlF_any F G h h2

/-- What lies in memory: blocks. -/
structure Pm (w0 : World) (L : List (Nat × TypeId × Array Value)) (u : World) : Prop where
  s : ∀ p ∈ L, Blk u p.1 p.2.1 p.2.2
  k : Kept [] w0 u
theorem Pm.none (w0 : World) : Pm w0 [] w0 := ⟨fun _ h => absurd h (by simp), Kept.refl _ _⟩
theorem Pm.kept {w0 : World} {L : List (Nat × TypeId × Array Value)} {u u' : World} (h : Pm w0 L u) (hk : Kept [] u u') : Pm w0 L u' := ⟨fun p hp => (h.s p hp).kept hk (by simp), h.k.then0 hk⟩
theorem Pm.drew {w0 : World} {L : List (Nat × TypeId × Array Value)} {u : World} (h : Pm w0 L u) : Pm w0 L u.drew := ⟨h.s, h.k.drew⟩
theorem Pm.cons {w0 : World} {L : List (Nat × TypeId × Array Value)} {u : World} (h : Pm w0 L u) {g : Nat} {t : TypeId} {cs : Array Value} (b : Blk u g t cs) : Pm w0 ((g, t, cs) :: L) u :=
  ⟨fun p hp => (List.mem_cons.1 hp).elim (fun e => by subst e; exact b) (fun hp => h.s p hp), h.k⟩
theorem Pm.fresh {w0 wr : World} {L : List (Nat × TypeId × Array Value)} (hr : Pm w0 L wr) (u u' : World) (T : List Nat) (h : Pm w0 L u) (hk : Kept T u u') (hT : ∀ k ∈ T, wr.heap.size ≤ k) : Pm w0 L u' :=
  ⟨fun p hp => (h.s p hp).kept hk fun hh => by have := hT _ hh; have := (hr.s p hp).lt; omega, h.k.fresh hk fun k hh => Nat.le_trans hr.k.size (hT k hh)⟩
theorem Pm.tail {w0 : World} {L : List (Nat × TypeId × Array Value)} {x : Nat × TypeId × Array Value} {u : World} (h : Pm w0 (x :: L) u) : Pm w0 L u := ⟨fun p hp => h.s p (List.mem_cons_of_mem _ hp), h.k⟩
/-- A new block that is filled. -/
theorem Pm.put {w0 : World} {g : Nat} {L : List (Nat × TypeId × Array Value)} {u u1 u2 : World} {t : TypeId} {cs cs2 : Array Value} (h : Pm w0 L u) (m : Made u u1 g t cs) (b : Blk u2 g t cs2) (k : Kept [g] u1 u2) : Pm w0 ((g, t, cs2) :: L) u2 := by
  have h1 := h.kept m.kept
  have hl := Nat.le_trans h.k.size m.le
  exact Pm.cons ⟨fun p hp => (h1.s p hp).kept k (by simpa using m.ne (h.s p hp).lt), h1.k.then1 k hl⟩ b
/-- The head is filled anew. -/
theorem Pm.again {w0 : World} {g : Nat} {L : List (Nat × TypeId × Array Value)} {u u2 : World} {t : TypeId} {cs cs2 : Array Value} (h : Pm w0 ((g, t, cs) :: L) u) (hl : w0.heap.size ≤ g) (hn : ∀ p ∈ L, p.1 ≠ g) (b : Blk u2 g t cs2) (k : Kept [g] u u2) : Pm w0 ((g, t, cs2) :: L) u2 :=
  Pm.cons ⟨fun p hp => (h.s p (List.mem_cons_of_mem _ hp)).kept k (by simpa using hn p hp), h.k.then1 k hl⟩ b

/-- A point's cells. -/
def ptc (X Y Z T : Nat → Nat) : List Value := uv (fam 5 X) ++ (uv (fam 5 Y) ++ (uv (fam 5 Z) ++ uv (fam 5 T)))
abbrev pv (X Y Z T : Nat → Nat) : Value := .agg (ptc X Y Z T).toArray
theorem structPt : RowT Try.prog 29 20 := ⟨⟨_, Try.underlying29, rfl⟩, by kernel_rfl⟩
theorem zeroPt : (Try.prog.info? 29).map (·.zero) = some (some (pv nought nought nought nought)) := by kernel_rfl
theorem one_ptl (X Y Z T : Nat → Nat) : ∀ u ∈ ptc X Y Z T, u.oneCell' = true := by
  intro u hu
  unfold ptc at hu
  simp only [List.mem_append] at hu
  rcases hu with h | h | h | h <;> exact one_uv _ u h
theorem one_pt (X Y Z T : Nat → Nat) : (ptc X Y Z T).toArray.all (·.oneCell') = true := by
  rw [Array.all_eq_true_iff_forall_mem]
  intro v hv
  exact one_ptl X Y Z T v (by simpa using hv)
theorem ptc_len (X Y Z T : Nat → Nat) : (ptc X Y Z T).length = 20 := by simp [ptc, fam_len]
theorem ptc_size (X Y Z T : Nat → Nat) : (ptc X Y Z T).toArray.size = 20 := by rw [List.size_toArray, ptc_len]
theorem pt_x {u : World} {g : Nat} {bt : TypeId} {X Y Z T : Nat → Nat} (h : Blk u g bt (ptc X Y Z T).toArray) : u.rangeAt g 0 (uv (fam 5 X)) := Blk.range (pre := []) h rfl
theorem pt_y {u : World} {g : Nat} {bt : TypeId} {X Y Z T : Nat → Nat} (h : Blk u g bt (ptc X Y Z T).toArray) : u.rangeAt g 5 (uv (fam 5 Y)) := Blk.range (pre := uv (fam 5 X)) h (by simp [fam_len])
theorem pt_z {u : World} {g : Nat} {bt : TypeId} {X Y Z T : Nat → Nat} (h : Blk u g bt (ptc X Y Z T).toArray) : u.rangeAt g 10 (uv (fam 5 Z)) := Blk.range (pre := uv (fam 5 X) ++ uv (fam 5 Y)) (post := uv (fam 5 T)) (by unfold ptc at h; rwa [List.append_assoc]) (by simp [fam_len])
theorem pt_t {u : World} {g : Nat} {bt : TypeId} {X Y Z T : Nat → Nat} (h : Blk u g bt (ptc X Y Z T).toArray) : u.rangeAt g 15 (uv (fam 5 T)) := Blk.range (pre := uv (fam 5 X) ++ uv (fam 5 Y) ++ uv (fam 5 Z)) (post := []) (by unfold ptc at h; rwa [List.append_assoc, List.append_assoc, List.append_nil]) (by simp [fam_len])
theorem fa0 (g : Nat) (W : World) : (Instr.fieldAt 29 (.pointer (some ⟨g, 0, none⟩)) 0).run Try.prog W = .ok (.pointer (some ⟨g, 0, none⟩)) W := by kernel_rfl
theorem fa1 (g : Nat) (W : World) : (Instr.fieldAt 29 (.pointer (some ⟨g, 0, none⟩)) 1).run Try.prog W = .ok (.pointer (some ⟨g, 5, none⟩)) W := by kernel_rfl
theorem fa2 (g : Nat) (W : World) : (Instr.fieldAt 29 (.pointer (some ⟨g, 0, none⟩)) 2).run Try.prog W = .ok (.pointer (some ⟨g, 10, none⟩)) W := by kernel_rfl
theorem fa3 (g : Nat) (W : World) : (Instr.fieldAt 29 (.pointer (some ⟨g, 0, none⟩)) 3).run Try.prog W = .ok (.pointer (some ⟨g, 15, none⟩)) W := by kernel_rfl
theorem built_pt (X Y Z T : Nat → Nat) : Try.prog.built 29 [(0, el X), (1, el Y), (2, el Z), (3, el T)] = some (ptc X Y Z T).toArray := by kernel_rfl
theorem uv5_len (F : Nat → Nat) : (uv (fam 5 F)).length = 5 := by simp [fam_len]
theorem enters_add (xs : Array Value) (w : World) : (callFunc 38 xs).run Try.prog w = .ok (.enter 38 xs) w := enters_of (c := _) Try.func38 (by kernel_rfl) rfl xs w
theorem enters_sub (xs : Array Value) (w : World) : (callFunc 36 xs).run Try.prog w = .ok (.enter 36 xs) w := enters_of (c := _) Try.func36 (by kernel_rfl) rfl xs w
end Go.Proofs.Ytkflljjcgihaoaa

namespace Go.Proofs.Ytkflljjcgihaoaa
open Go.RowKit Go.Mem Go.Txt

theorem wp_buildp {o : Oper} {a : Act} {w : World} {C : Act → World → Prop} {R : Exit → Act → World → Prop} {x0 x1 x2 x3 : Tmp} {X Y Z T : Nat → Nat} (ho : o.op = .build 29 #[(0, .tmp x0), (1, .tmp x1), (2, .tmp x2), (3, .tmp x3)])
    (h0 : a.tmps.getD x0 undef = el X) (h1 : a.tmps.getD x1 undef = el Y) (h2 : a.tmps.getD x2 undef = el Z) (h3 : a.tmps.getD x3 undef = el T) (h : C (a.put o.dst (pv X Y Z T)) w) : o.wp Try.prog a w C R := by
  have e : (#[(0, Operand.tmp x0), (1, Operand.tmp x1), (2, Operand.tmp x2), (3, Operand.tmp x3)].map fun (p : Nat × Operand) => (p.1, a.eval p.2)).toList = [(0, el X), (1, el Y), (2, el Z), (3, el T)] := by
    simp [Act.eval] at h0 h1 h2 h3 ⊢
    exact ⟨h0, h1, h2, h3⟩
  refine wp_build _ _ ho (by rw [e, built_pt]; rfl) ?_
  rw [e, built_pt]
  exact h

set_option maxRecDepth 100000 in
set_option maxHeartbeats 4000000 in
theorem cplus_any (X1 Y1 Z1 T1 X2 Y2 Z2 T2 K : Nat → Nat) (lX1 : Lim X1) (lY1 : Lim Y1) (lZ1 : Lim Z1) (lT1 : Lim T1) (lX2 : Lim X2) (lY2 : Lim Y2) (lZ2 : Lim Z2) (lT2 : Lim T2) (lK : Lim K) (w : World) :
    Calls Try.prog 58 #[pv X1 Y1 Z1 T1, pv X2 Y2 Z2 T2, el K] w fun e w' => e = .returned (pv (mlF (suF (mlF (adF Y1 X1) (adF Y2 X2)) (mlF (suF Y1 X1) (suF Y2 X2))) (suF (adF (mlF Z1 Z2) (mlF Z1 Z2)) (mlF (mlF T1 K) T2))) (mlF (adF (adF (mlF Z1 Z2) (mlF Z1 Z2)) (mlF (mlF T1 K) T2)) (adF (mlF (adF Y1 X1) (adF Y2 X2)) (mlF (suF Y1 X1) (suF Y2 X2)))) (mlF (suF (adF (mlF Z1 Z2) (mlF Z1 Z2)) (mlF (mlF T1 K) T2)) (adF (adF (mlF Z1 Z2) (mlF Z1 Z2)) (mlF (mlF T1 K) T2))) (mlF (suF (mlF (adF Y1 X1) (adF Y2 X2)) (mlF (suF Y1 X1) (suF Y2 X2))) (adF (mlF (adF Y1 X1) (adF Y2 X2)) (mlF (suF Y1 X1) (suF Y2 X2))))) ∧ Kept [] w w' := by
  have k0 : SuC Y1 X1 (suF Y1 X1) := su_l lY1 lX1
  replace k0 := Lib.hid k0
  have k1 : SuC Y2 X2 (suF Y2 X2) := su_l lY2 lX2
  replace k1 := Lib.hid k1
  have k2 : MlC (suF Y1 X1) (suF Y2 X2) (mlF (suF Y1 X1) (suF Y2 X2)) := ml_l (suF_lim lY1 lX1) (suF_lim lY2 lX2)
  replace k2 := Lib.hid k2
  have k3 : AdC Y1 X1 (adF Y1 X1) := ad_l lY1 lX1
  replace k3 := Lib.hid k3
  have k4 : AdC Y2 X2 (adF Y2 X2) := ad_l lY2 lX2
  replace k4 := Lib.hid k4
  have k5 : MlC (adF Y1 X1) (adF Y2 X2) (mlF (adF Y1 X1) (adF Y2 X2)) := ml_l (adF_lim lY1 lX1) (adF_lim lY2 lX2)
  replace k5 := Lib.hid k5
  have k6 : MlC T1 K (mlF T1 K) := ml_l lT1 lK
  replace k6 := Lib.hid k6
  have k7 : MlC (mlF T1 K) T2 (mlF (mlF T1 K) T2) := ml_l (mlF_lim lT1 lK) lT2
  replace k7 := Lib.hid k7
  have k8 : MlC Z1 Z2 (mlF Z1 Z2) := ml_l lZ1 lZ2
  replace k8 := Lib.hid k8
  have k9 : AdC (mlF Z1 Z2) (mlF Z1 Z2) (adF (mlF Z1 Z2) (mlF Z1 Z2)) := ad_l (mlF_lim lZ1 lZ2) (mlF_lim lZ1 lZ2)
  replace k9 := Lib.hid k9
  have k10 : SuC (mlF (adF Y1 X1) (adF Y2 X2)) (mlF (suF Y1 X1) (suF Y2 X2)) (suF (mlF (adF Y1 X1) (adF Y2 X2)) (mlF (suF Y1 X1) (suF Y2 X2))) := su_l (mlF_lim (adF_lim lY1 lX1) (adF_lim lY2 lX2)) (mlF_lim (suF_lim lY1 lX1) (suF_lim lY2 lX2))
  replace k10 := Lib.hid k10
  have k11 : SuC (adF (mlF Z1 Z2) (mlF Z1 Z2)) (mlF (mlF T1 K) T2) (suF (adF (mlF Z1 Z2) (mlF Z1 Z2)) (mlF (mlF T1 K) T2)) := su_l (adF_lim (mlF_lim lZ1 lZ2) (mlF_lim lZ1 lZ2)) (mlF_lim (mlF_lim lT1 lK) lT2)
  replace k11 := Lib.hid k11
  have k12 : AdC (adF (mlF Z1 Z2) (mlF Z1 Z2)) (mlF (mlF T1 K) T2) (adF (adF (mlF Z1 Z2) (mlF Z1 Z2)) (mlF (mlF T1 K) T2)) := ad_l (adF_lim (mlF_lim lZ1 lZ2) (mlF_lim lZ1 lZ2)) (mlF_lim (mlF_lim lT1 lK) lT2)
  replace k12 := Lib.hid k12
  have k13 : AdC (mlF (adF Y1 X1) (adF Y2 X2)) (mlF (suF Y1 X1) (suF Y2 X2)) (adF (mlF (adF Y1 X1) (adF Y2 X2)) (mlF (suF Y1 X1) (suF Y2 X2))) := ad_l (mlF_lim (adF_lim lY1 lX1) (adF_lim lY2 lX2)) (mlF_lim (suF_lim lY1 lX1) (suF_lim lY2 lX2))
  replace k13 := Lib.hid k13
  have k14 : MlC (suF (mlF (adF Y1 X1) (adF Y2 X2)) (mlF (suF Y1 X1) (suF Y2 X2))) (suF (adF (mlF Z1 Z2) (mlF Z1 Z2)) (mlF (mlF T1 K) T2)) (mlF (suF (mlF (adF Y1 X1) (adF Y2 X2)) (mlF (suF Y1 X1) (suF Y2 X2))) (suF (adF (mlF Z1 Z2) (mlF Z1 Z2)) (mlF (mlF T1 K) T2))) := ml_l (suF_lim (mlF_lim (adF_lim lY1 lX1) (adF_lim lY2 lX2)) (mlF_lim (suF_lim lY1 lX1) (suF_lim lY2 lX2))) (suF_lim (adF_lim (mlF_lim lZ1 lZ2) (mlF_lim lZ1 lZ2)) (mlF_lim (mlF_lim lT1 lK) lT2))
  replace k14 := Lib.hid k14
  have k15 : MlC (adF (adF (mlF Z1 Z2) (mlF Z1 Z2)) (mlF (mlF T1 K) T2)) (adF (mlF (adF Y1 X1) (adF Y2 X2)) (mlF (suF Y1 X1) (suF Y2 X2))) (mlF (adF (adF (mlF Z1 Z2) (mlF Z1 Z2)) (mlF (mlF T1 K) T2)) (adF (mlF (adF Y1 X1) (adF Y2 X2)) (mlF (suF Y1 X1) (suF Y2 X2)))) := ml_l (adF_lim (adF_lim (mlF_lim lZ1 lZ2) (mlF_lim lZ1 lZ2)) (mlF_lim (mlF_lim lT1 lK) lT2)) (adF_lim (mlF_lim (adF_lim lY1 lX1) (adF_lim lY2 lX2)) (mlF_lim (suF_lim lY1 lX1) (suF_lim lY2 lX2)))
  replace k15 := Lib.hid k15
  have k16 : MlC (suF (adF (mlF Z1 Z2) (mlF Z1 Z2)) (mlF (mlF T1 K) T2)) (adF (adF (mlF Z1 Z2) (mlF Z1 Z2)) (mlF (mlF T1 K) T2)) (mlF (suF (adF (mlF Z1 Z2) (mlF Z1 Z2)) (mlF (mlF T1 K) T2)) (adF (adF (mlF Z1 Z2) (mlF Z1 Z2)) (mlF (mlF T1 K) T2))) := ml_l (suF_lim (adF_lim (mlF_lim lZ1 lZ2) (mlF_lim lZ1 lZ2)) (mlF_lim (mlF_lim lT1 lK) lT2)) (adF_lim (adF_lim (mlF_lim lZ1 lZ2) (mlF_lim lZ1 lZ2)) (mlF_lim (mlF_lim lT1 lK) lT2))
  replace k16 := Lib.hid k16
  have k17 : MlC (suF (mlF (adF Y1 X1) (adF Y2 X2)) (mlF (suF Y1 X1) (suF Y2 X2))) (adF (mlF (adF Y1 X1) (adF Y2 X2)) (mlF (suF Y1 X1) (suF Y2 X2))) (mlF (suF (mlF (adF Y1 X1) (adF Y2 X2)) (mlF (suF Y1 X1) (suF Y2 X2))) (adF (mlF (adF Y1 X1) (adF Y2 X2)) (mlF (suF Y1 X1) (suF Y2 X2)))) := ml_l (suF_lim (mlF_lim (adF_lim lY1 lX1) (adF_lim lY2 lX2)) (mlF_lim (suF_lim lY1 lX1) (suF_lim lY2 lX2))) (adF_lim (mlF_lim (adF_lim lY1 lX1) (adF_lim lY2 lX2)) (mlF_lim (suF_lim lY1 lX1) (suF_lim lY2 lX2)))
  replace k17 := Lib.hid k17
  clear lX1 lY1 lZ1 lT1 lX2 lY2 lZ2 lT2 lK
  go_enter Try.func58, Try.ntmps58
  go_wp2_with (first
    | ((with_reducible refine wpl_box (o := ⟨some 3, _, _, _, _, _⟩) (v := pv X1 Y1 Z1 T1) rfl (.tmp 0) rfl rfl ?_); intro g3 w3 m3)
    | ((with_reducible refine wpl_box (o := ⟨some 4, _, _, _, _, _⟩) (v := pv X2 Y2 Z2 T2) rfl (.tmp 1) rfl rfl ?_); intro g4 w4 m4)
    | ((with_reducible refine wpl_box (o := ⟨some 5, _, _, _, _, _⟩) (v := el K) rfl (.tmp 2) rfl rfl ?_); intro g5 w5 m5)
    | ((with_reducible refine wpl_new (o := ⟨some 6, _, _, _, _, _⟩) rfl rfl zeroPt ?_); intro g6 w6 m6))
  have t0 := (((((Pm.none w).kept m3.kept).cons m3.blk).kept m4.kept |>.cons m4.blk).kept m5.kept |>.cons m5.blk).kept m6.kept
  have r6 := Lib.hid (And.intro m6.blk (Nat.le_trans (((m3.kept.then0 m4.kept).then0 m5.kept)).size m6.le))
  have t := Lib.hid (show Pm w [(g6, 29, (ptc nought nought nought nought).toArray), (g5, 27, (uv (fam 5 K)).toArray), (g4, 29, (ptc X2 Y2 Z2 T2).toArray), (g3, 29, (ptc X1 Y1 Z1 T1).toArray)] w6 from t0.cons m6.blk)
  have hl6 := Lib.hid r6.out.2
  clear m3 m4 m5 m6 t0 r6
  refine wp_multi (by kernel_rfl) [.val (.pointer (some ⟨g3, 5, none⟩)), .val (el Y1), .val (.pointer (some ⟨g3, 0, none⟩)), .val (el X1), .val (el (suF Y1 X1)), .val (.pointer (some ⟨g4, 5, none⟩)), .val (el Y2), .val (.pointer (some ⟨g4, 0, none⟩)), .val (el X2), .val (el (suF Y2 X2)), .val (el (mlF (suF Y1 X1) (suF Y2 X2))), .new 27 (el nought), .put 11 10 (uv (fam 5 (mlF (suF Y1 X1) (suF Y2 X2)))).toArray]
    (Pm w [(g6, 29, (ptc nought nought nought nought).toArray), (g5, 27, (uv (fam 5 K)).toArray), (g4, 29, (ptc X2 Y2 Z2 T2).toArray), (g3, 29, (ptc X1 Y1 Z1 T1).toArray)]) (by kernel_rfl) (by kernel_rfl) t.out.drew (fun u u' T hS hk hT => t.out.fresh u u' T hS hk hT) ?_ ?_
  · refine ⟨?_, ?_, ?_, ?_, ?_, ?_, ?_, ?_, ?_, ?_, ?_, ⟨⟨_, rfl⟩, rfl, zeroEl⟩, ?_, trivial⟩
    · exact ⟨⟨_, rfl⟩, fun a' u K0 R hS hr ho h => wp_fieldp (.tmp 3) rfl ((ho 3 (by decide)).trans rfl) (fa1 g3) (h u (Kept.refl _ _))⟩
    · exact ⟨⟨_, rfl⟩, fun a' u K0 R hS hr ho h => wp_loadp structEl (.tmp 15) rfl (hr 0 _ 15 _ rfl rfl rfl ⟨⟨0, .data⟩, by simp, rfl, rfl⟩) (pt_y (hS.s (g3, 29, (ptc X1 Y1 Z1 T1).toArray) (by simp))) (uv5_len _) (h u (Kept.refl _ _))⟩
    · exact ⟨⟨_, rfl⟩, fun a' u K0 R hS hr ho h => wp_fieldp (.tmp 3) rfl ((ho 3 (by decide)).trans rfl) (fa0 g3) (h u (Kept.refl _ _))⟩
    · exact ⟨⟨_, rfl⟩, fun a' u K0 R hS hr ho h => wp_loadp structEl (.tmp 17) rfl (hr 2 _ 17 _ rfl rfl rfl ⟨⟨2, .data⟩, by simp, rfl, rfl⟩) (pt_x (hS.s (g3, 29, (ptc X1 Y1 Z1 T1).toArray) (by simp))) (uv5_len _) (h u (Kept.refl _ _))⟩
    · refine ⟨⟨_, rfl⟩, fun a' u K0 R hS hr ho h => ?_⟩
      refine wp_callf rfl enters_sub (vs := #[el Y1, el X1]) ?_ (k0.out u) h
      have h0 := hr 1 (el Y1) 16 _ rfl rfl rfl ⟨⟨1, .data⟩, by simp, rfl, rfl⟩
      have h1 := hr 3 (el X1) 18 _ rfl rfl rfl ⟨⟨3, .data⟩, by simp, rfl, rfl⟩
      simp [Act.eval] at h0 h1 ⊢
      exact ⟨h0, h1⟩
    · exact ⟨⟨_, rfl⟩, fun a' u K0 R hS hr ho h => wp_fieldp (.tmp 4) rfl ((ho 4 (by decide)).trans rfl) (fa1 g4) (h u (Kept.refl _ _))⟩
    · exact ⟨⟨_, rfl⟩, fun a' u K0 R hS hr ho h => wp_loadp structEl (.tmp 20) rfl (hr 5 _ 20 _ rfl rfl rfl ⟨⟨5, .data⟩, by simp, rfl, rfl⟩) (pt_y (hS.s (g4, 29, (ptc X2 Y2 Z2 T2).toArray) (by simp))) (uv5_len _) (h u (Kept.refl _ _))⟩
    · exact ⟨⟨_, rfl⟩, fun a' u K0 R hS hr ho h => wp_fieldp (.tmp 4) rfl ((ho 4 (by decide)).trans rfl) (fa0 g4) (h u (Kept.refl _ _))⟩
    · exact ⟨⟨_, rfl⟩, fun a' u K0 R hS hr ho h => wp_loadp structEl (.tmp 22) rfl (hr 7 _ 22 _ rfl rfl rfl ⟨⟨7, .data⟩, by simp, rfl, rfl⟩) (pt_x (hS.s (g4, 29, (ptc X2 Y2 Z2 T2).toArray) (by simp))) (uv5_len _) (h u (Kept.refl _ _))⟩
    · refine ⟨⟨_, rfl⟩, fun a' u K0 R hS hr ho h => ?_⟩
      refine wp_callf rfl enters_sub (vs := #[el Y2, el X2]) ?_ (k1.out u) h
      have h0 := hr 6 (el Y2) 21 _ rfl rfl rfl ⟨⟨6, .data⟩, by simp, rfl, rfl⟩
      have h1 := hr 8 (el X2) 23 _ rfl rfl rfl ⟨⟨8, .data⟩, by simp, rfl, rfl⟩
      simp [Act.eval] at h0 h1 ⊢
      exact ⟨h0, h1⟩
    · refine ⟨⟨_, rfl⟩, fun a' u K0 R hS hr ho h => ?_⟩
      refine wp_callf rfl enters_mul (vs := #[el (suF Y1 X1), el (suF Y2 X2)]) ?_ (k2.out u) h
      have h0 := hr 4 (el (suF Y1 X1)) 19 _ rfl rfl rfl ⟨⟨4, .data⟩, by simp, rfl, rfl⟩
      have h1 := hr 9 (el (suF Y2 X2)) 24 _ rfl rfl rfl ⟨⟨9, .data⟩, by simp, rfl, rfl⟩
      simp [Act.eval] at h0 h1 ⊢
      exact ⟨h0, h1⟩
    · exact ⟨rfl, ⟨⟨11, .data⟩, by simp, rfl, rfl⟩, ⟨⟨10, .data⟩, by simp, rfl, rfl⟩, _, _, _, _, _, _, _, _, rfl, rfl, rfl, rfl, rfl, rfl, rfl, structEl, rfl, rfl, one_el _⟩
  · intro γ w11 hS hγ hne hput
    have b7 := hput 12 11 10 _ _ _ rfl rfl
    have hf7 := hγ 11 _ _ rfl
    generalize e7 : γ 11 = g7 at *
    simp [actOf, VK, List.range, List.range.loop, Act.put, e7]
    replace t := Lib.hid (show Pm w [(g7, 27, (uv (fam 5 (mlF (suF Y1 X1) (suF Y2 X2)))).toArray), (g6, 29, (ptc nought nought nought nought).toArray), (g5, 27, (uv (fam 5 K)).toArray), (g4, 29, (ptc X2 Y2 Z2 T2).toArray), (g3, 29, (ptc X1 Y1 Z1 T1).toArray)] w11 from (hS).cons b7)
    clear b7 hput hne hγ hS e7 hf7
    go_wp2_with fail
    refine wp_multi (by kernel_rfl) [.val (.pointer (some ⟨g3, 5, none⟩)), .val (el Y1), .val (.pointer (some ⟨g3, 0, none⟩)), .val (el X1), .val (el (adF Y1 X1)), .val (.pointer (some ⟨g4, 5, none⟩)), .val (el Y2), .val (.pointer (some ⟨g4, 0, none⟩)), .val (el X2), .val (el (adF Y2 X2)), .val (el (mlF (adF Y1 X1) (adF Y2 X2))), .new 27 (el nought), .put 11 10 (uv (fam 5 (mlF (adF Y1 X1) (adF Y2 X2)))).toArray]
      (Pm w [(g7, 27, (uv (fam 5 (mlF (suF Y1 X1) (suF Y2 X2)))).toArray), (g6, 29, (ptc nought nought nought nought).toArray), (g5, 27, (uv (fam 5 K)).toArray), (g4, 29, (ptc X2 Y2 Z2 T2).toArray), (g3, 29, (ptc X1 Y1 Z1 T1).toArray)]) (by kernel_rfl) (by kernel_rfl) t.out.drew (fun u u' T hS hk hT => t.out.fresh u u' T hS hk hT) ?_ ?_
    · refine ⟨?_, ?_, ?_, ?_, ?_, ?_, ?_, ?_, ?_, ?_, ?_, ⟨⟨_, rfl⟩, rfl, zeroEl⟩, ?_, trivial⟩
      · exact ⟨⟨_, rfl⟩, fun a' u K0 R hS hr ho h => wp_fieldp (.tmp 3) rfl ((ho 3 (by decide)).trans rfl) (fa1 g3) (h u (Kept.refl _ _))⟩
      · exact ⟨⟨_, rfl⟩, fun a' u K0 R hS hr ho h => wp_loadp structEl (.tmp 26) rfl (hr 0 _ 26 _ rfl rfl rfl ⟨⟨0, .data⟩, by simp, rfl, rfl⟩) (pt_y (hS.s (g3, 29, (ptc X1 Y1 Z1 T1).toArray) (by simp))) (uv5_len _) (h u (Kept.refl _ _))⟩
      · exact ⟨⟨_, rfl⟩, fun a' u K0 R hS hr ho h => wp_fieldp (.tmp 3) rfl ((ho 3 (by decide)).trans rfl) (fa0 g3) (h u (Kept.refl _ _))⟩
      · exact ⟨⟨_, rfl⟩, fun a' u K0 R hS hr ho h => wp_loadp structEl (.tmp 28) rfl (hr 2 _ 28 _ rfl rfl rfl ⟨⟨2, .data⟩, by simp, rfl, rfl⟩) (pt_x (hS.s (g3, 29, (ptc X1 Y1 Z1 T1).toArray) (by simp))) (uv5_len _) (h u (Kept.refl _ _))⟩
      · refine ⟨⟨_, rfl⟩, fun a' u K0 R hS hr ho h => ?_⟩
        refine wp_callf rfl enters_add (vs := #[el Y1, el X1]) ?_ (k3.out u) h
        have h0 := hr 1 (el Y1) 27 _ rfl rfl rfl ⟨⟨1, .data⟩, by simp, rfl, rfl⟩
        have h1 := hr 3 (el X1) 29 _ rfl rfl rfl ⟨⟨3, .data⟩, by simp, rfl, rfl⟩
        simp [Act.eval] at h0 h1 ⊢
        exact ⟨h0, h1⟩
      · exact ⟨⟨_, rfl⟩, fun a' u K0 R hS hr ho h => wp_fieldp (.tmp 4) rfl ((ho 4 (by decide)).trans rfl) (fa1 g4) (h u (Kept.refl _ _))⟩
      · exact ⟨⟨_, rfl⟩, fun a' u K0 R hS hr ho h => wp_loadp structEl (.tmp 31) rfl (hr 5 _ 31 _ rfl rfl rfl ⟨⟨5, .data⟩, by simp, rfl, rfl⟩) (pt_y (hS.s (g4, 29, (ptc X2 Y2 Z2 T2).toArray) (by simp))) (uv5_len _) (h u (Kept.refl _ _))⟩
      · exact ⟨⟨_, rfl⟩, fun a' u K0 R hS hr ho h => wp_fieldp (.tmp 4) rfl ((ho 4 (by decide)).trans rfl) (fa0 g4) (h u (Kept.refl _ _))⟩
      · exact ⟨⟨_, rfl⟩, fun a' u K0 R hS hr ho h => wp_loadp structEl (.tmp 33) rfl (hr 7 _ 33 _ rfl rfl rfl ⟨⟨7, .data⟩, by simp, rfl, rfl⟩) (pt_x (hS.s (g4, 29, (ptc X2 Y2 Z2 T2).toArray) (by simp))) (uv5_len _) (h u (Kept.refl _ _))⟩
      · refine ⟨⟨_, rfl⟩, fun a' u K0 R hS hr ho h => ?_⟩
        refine wp_callf rfl enters_add (vs := #[el Y2, el X2]) ?_ (k4.out u) h
        have h0 := hr 6 (el Y2) 32 _ rfl rfl rfl ⟨⟨6, .data⟩, by simp, rfl, rfl⟩
        have h1 := hr 8 (el X2) 34 _ rfl rfl rfl ⟨⟨8, .data⟩, by simp, rfl, rfl⟩
        simp [Act.eval] at h0 h1 ⊢
        exact ⟨h0, h1⟩
      · refine ⟨⟨_, rfl⟩, fun a' u K0 R hS hr ho h => ?_⟩
        refine wp_callf rfl enters_mul (vs := #[el (adF Y1 X1), el (adF Y2 X2)]) ?_ (k5.out u) h
        have h0 := hr 4 (el (adF Y1 X1)) 30 _ rfl rfl rfl ⟨⟨4, .data⟩, by simp, rfl, rfl⟩
        have h1 := hr 9 (el (adF Y2 X2)) 35 _ rfl rfl rfl ⟨⟨9, .data⟩, by simp, rfl, rfl⟩
        simp [Act.eval] at h0 h1 ⊢
        exact ⟨h0, h1⟩
      · exact ⟨rfl, ⟨⟨11, .data⟩, by simp, rfl, rfl⟩, ⟨⟨10, .data⟩, by simp, rfl, rfl⟩, _, _, _, _, _, _, _, _, rfl, rfl, rfl, rfl, rfl, rfl, rfl, structEl, rfl, rfl, one_el _⟩
    · intro γ w12 hS hγ hne hput
      have b8 := hput 12 11 10 _ _ _ rfl rfl
      have hf8 := hγ 11 _ _ rfl
      generalize e8 : γ 11 = g8 at *
      simp [actOf, VK, List.range, List.range.loop, Act.put, e8]
      replace t := Lib.hid (show Pm w [(g8, 27, (uv (fam 5 (mlF (adF Y1 X1) (adF Y2 X2)))).toArray), (g7, 27, (uv (fam 5 (mlF (suF Y1 X1) (suF Y2 X2)))).toArray), (g6, 29, (ptc nought nought nought nought).toArray), (g5, 27, (uv (fam 5 K)).toArray), (g4, 29, (ptc X2 Y2 Z2 T2).toArray), (g3, 29, (ptc X1 Y1 Z1 T1).toArray)] w12 from (hS).cons b8)
      clear b8 hput hne hγ hS e8 hf8
      go_wp2_with fail
      refine wp_multi (by kernel_rfl) [.val (.pointer (some ⟨g3, 15, none⟩)), .val (el T1), .val (el K), .val (el (mlF T1 K)), .val (.pointer (some ⟨g4, 15, none⟩)), .val (el T2), .val (el (mlF (mlF T1 K) T2)), .new 27 (el nought), .put 7 6 (uv (fam 5 (mlF (mlF T1 K) T2))).toArray]
        (Pm w [(g8, 27, (uv (fam 5 (mlF (adF Y1 X1) (adF Y2 X2)))).toArray), (g7, 27, (uv (fam 5 (mlF (suF Y1 X1) (suF Y2 X2)))).toArray), (g6, 29, (ptc nought nought nought nought).toArray), (g5, 27, (uv (fam 5 K)).toArray), (g4, 29, (ptc X2 Y2 Z2 T2).toArray), (g3, 29, (ptc X1 Y1 Z1 T1).toArray)]) (by kernel_rfl) (by kernel_rfl) t.out.drew (fun u u' T hS hk hT => t.out.fresh u u' T hS hk hT) ?_ ?_
      · refine ⟨?_, ?_, ?_, ?_, ?_, ?_, ?_, ⟨⟨_, rfl⟩, rfl, zeroEl⟩, ?_, trivial⟩
        · exact ⟨⟨_, rfl⟩, fun a' u K0 R hS hr ho h => wp_fieldp (.tmp 3) rfl ((ho 3 (by decide)).trans rfl) (fa3 g3) (h u (Kept.refl _ _))⟩
        · exact ⟨⟨_, rfl⟩, fun a' u K0 R hS hr ho h => wp_loadp structEl (.tmp 37) rfl (hr 0 _ 37 _ rfl rfl rfl ⟨⟨0, .data⟩, by simp, rfl, rfl⟩) (pt_t (hS.s (g3, 29, (ptc X1 Y1 Z1 T1).toArray) (by simp))) (uv5_len _) (h u (Kept.refl _ _))⟩
        · exact ⟨⟨_, rfl⟩, fun a' u K0 R hS hr ho h => wp_loadr structEl (.tmp 5) rfl ((ho 5 (by decide)).trans rfl) (hS.s (g5, 27, (uv (fam 5 K)).toArray) (by simp)) rfl (h u (Kept.refl _ _))⟩
        · refine ⟨⟨_, rfl⟩, fun a' u K0 R hS hr ho h => ?_⟩
          refine wp_callf rfl enters_mul (vs := #[el T1, el K]) ?_ (k6.out u) h
          have h0 := hr 1 (el T1) 38 _ rfl rfl rfl ⟨⟨1, .data⟩, by simp, rfl, rfl⟩
          have h1 := hr 2 (el K) 39 _ rfl rfl rfl ⟨⟨2, .data⟩, by simp, rfl, rfl⟩
          simp [Act.eval] at h0 h1 ⊢
          exact ⟨h0, h1⟩
        · exact ⟨⟨_, rfl⟩, fun a' u K0 R hS hr ho h => wp_fieldp (.tmp 4) rfl ((ho 4 (by decide)).trans rfl) (fa3 g4) (h u (Kept.refl _ _))⟩
        · exact ⟨⟨_, rfl⟩, fun a' u K0 R hS hr ho h => wp_loadp structEl (.tmp 41) rfl (hr 4 _ 41 _ rfl rfl rfl ⟨⟨4, .data⟩, by simp, rfl, rfl⟩) (pt_t (hS.s (g4, 29, (ptc X2 Y2 Z2 T2).toArray) (by simp))) (uv5_len _) (h u (Kept.refl _ _))⟩
        · refine ⟨⟨_, rfl⟩, fun a' u K0 R hS hr ho h => ?_⟩
          refine wp_callf rfl enters_mul (vs := #[el (mlF T1 K), el T2]) ?_ (k7.out u) h
          have h0 := hr 3 (el (mlF T1 K)) 40 _ rfl rfl rfl ⟨⟨3, .data⟩, by simp, rfl, rfl⟩
          have h1 := hr 5 (el T2) 42 _ rfl rfl rfl ⟨⟨5, .data⟩, by simp, rfl, rfl⟩
          simp [Act.eval] at h0 h1 ⊢
          exact ⟨h0, h1⟩
        · exact ⟨rfl, ⟨⟨7, .data⟩, by simp, rfl, rfl⟩, ⟨⟨6, .data⟩, by simp, rfl, rfl⟩, _, _, _, _, _, _, _, _, rfl, rfl, rfl, rfl, rfl, rfl, rfl, structEl, rfl, rfl, one_el _⟩
      · intro γ w13 hS hγ hne hput
        have b9 := hput 8 7 6 _ _ _ rfl rfl
        have hf9 := hγ 7 _ _ rfl
        generalize e9 : γ 7 = g9 at *
        simp [actOf, VK, List.range, List.range.loop, Act.put, e9]
        replace t := Lib.hid (show Pm w [(g9, 27, (uv (fam 5 (mlF (mlF T1 K) T2))).toArray), (g8, 27, (uv (fam 5 (mlF (adF Y1 X1) (adF Y2 X2)))).toArray), (g7, 27, (uv (fam 5 (mlF (suF Y1 X1) (suF Y2 X2)))).toArray), (g6, 29, (ptc nought nought nought nought).toArray), (g5, 27, (uv (fam 5 K)).toArray), (g4, 29, (ptc X2 Y2 Z2 T2).toArray), (g3, 29, (ptc X1 Y1 Z1 T1).toArray)] w13 from (hS).cons b9)
        clear b9 hput hne hγ hS e9 hf9

        go_wp2_with (first
          | (with_reducible refine wpl_loadp (o := ⟨some 45, _, _, _, _, _⟩) structEl rfl (.tmp 44) rfl rfl (pt_z (t.out.s (g3, 29, (ptc X1 Y1 Z1 T1).toArray) (by simp))) (uv5_len _) ?_)
          | (with_reducible refine wpl_loadp (o := ⟨some 47, _, _, _, _, _⟩) structEl rfl (.tmp 46) rfl rfl (pt_z (t.out.s (g4, 29, (ptc X2 Y2 Z2 T2).toArray) (by simp))) (uv5_len _) ?_)
          | (go_at_call 33; (with_reducible refine (k8.out _).mono ?_); rintro e y1 ⟨rfl, kk⟩; replace t := Lib.hid (t.out.kept kk); clear kk)
          | ((with_reducible refine wpl_new (o := ⟨some 10, _, _, _, _, _⟩) rfl rfl zeroEl ?_); intro g10 x10 m10; have hl10 := Lib.hid (Nat.le_trans t.out.k.size m10.le); have hn10 := Lib.hid (fun p hp => m10.ne (t.out.s p hp).lt))
          | ((with_reducible refine wpl_store_row (o := ⟨none, .store 27 (.tmp 10) (.tmp 48), _, _, _, _⟩) structEl rfl (.tmp 10) (.tmp 48) rfl rfl rfl m10.blk rfl rfl (one_el _) ?_); intro v10 b10 k10; replace t := Lib.hid (t.out.put m10 b10 k10); clear m10 b10 k10)
          | (with_reducible refine wpl_load_row (o := ⟨some 49, _, _, _, _, _⟩) structEl rfl (.tmp 10) rfl rfl (t.out.s (g10, 27, (uv (fam 5 (mlF Z1 Z2))).toArray) (by simp)) rfl ?_)
          | (with_reducible refine wpl_load_row (o := ⟨some 50, _, _, _, _, _⟩) structEl rfl (.tmp 10) rfl rfl (t.out.s (g10, 27, (uv (fam 5 (mlF Z1 Z2))).toArray) (by simp)) rfl ?_)
          | (go_at_call 38; (with_reducible refine (k9.out _).mono ?_); rintro e y1 ⟨rfl, kk⟩; replace t := Lib.hid (t.out.kept kk); clear kk)
          | ((with_reducible refine wpl_store_row (o := ⟨none, .store 27 (.tmp 10) (.tmp 51), _, _, _, _⟩) structEl rfl (.tmp 10) (.tmp 51) rfl rfl rfl (t.out.s (g10, 27, (uv (fam 5 (mlF Z1 Z2))).toArray) (by simp)) rfl rfl (one_el _) ?_); intro v11 b11 k11; replace t := Lib.hid (t.out.again hl10.out hn10.out b11 k11); clear b11 k11))
        go_wp2_with fail
        refine wp_multi (by kernel_rfl) [.val (el (mlF (adF Y1 X1) (adF Y2 X2))), .val (el (mlF (suF Y1 X1) (suF Y2 X2))), .val (el (suF (mlF (adF Y1 X1) (adF Y2 X2)) (mlF (suF Y1 X1) (suF Y2 X2)))), .val (el (adF (mlF Z1 Z2) (mlF Z1 Z2))), .val (el (mlF (mlF T1 K) T2)), .val (el (suF (adF (mlF Z1 Z2) (mlF Z1 Z2)) (mlF (mlF T1 K) T2))), .val (el (adF (mlF Z1 Z2) (mlF Z1 Z2))), .val (el (mlF (mlF T1 K) T2)), .val (el (adF (adF (mlF Z1 Z2) (mlF Z1 Z2)) (mlF (mlF T1 K) T2))), .val (el (mlF (adF Y1 X1) (adF Y2 X2))), .val (el (mlF (suF Y1 X1) (suF Y2 X2))), .val (el (adF (mlF (adF Y1 X1) (adF Y2 X2)) (mlF (suF Y1 X1) (suF Y2 X2)))), .new 27 (el nought), .new 27 (el nought), .new 27 (el nought), .new 27 (el nought), .put 12 2 (uv (fam 5 (suF (mlF (adF Y1 X1) (adF Y2 X2)) (mlF (suF Y1 X1) (suF Y2 X2))))).toArray, .put 13 5 (uv (fam 5 (suF (adF (mlF Z1 Z2) (mlF Z1 Z2)) (mlF (mlF T1 K) T2)))).toArray, .put 14 8 (uv (fam 5 (adF (adF (mlF Z1 Z2) (mlF Z1 Z2)) (mlF (mlF T1 K) T2)))).toArray, .put 15 11 (uv (fam 5 (adF (mlF (adF Y1 X1) (adF Y2 X2)) (mlF (suF Y1 X1) (suF Y2 X2))))).toArray]
          (Pm w [(g10, 27, (uv (fam 5 (adF (mlF Z1 Z2) (mlF Z1 Z2)))).toArray), (g9, 27, (uv (fam 5 (mlF (mlF T1 K) T2))).toArray), (g8, 27, (uv (fam 5 (mlF (adF Y1 X1) (adF Y2 X2)))).toArray), (g7, 27, (uv (fam 5 (mlF (suF Y1 X1) (suF Y2 X2)))).toArray), (g6, 29, (ptc nought nought nought nought).toArray), (g5, 27, (uv (fam 5 K)).toArray), (g4, 29, (ptc X2 Y2 Z2 T2).toArray), (g3, 29, (ptc X1 Y1 Z1 T1).toArray)]) (by kernel_rfl) (by kernel_rfl) t.out.drew (fun u u' T hS hk hT => t.out.fresh u u' T hS hk hT) ?_ ?_
        · refine ⟨?_, ?_, ?_, ?_, ?_, ?_, ?_, ?_, ?_, ?_, ?_, ?_, ⟨⟨_, rfl⟩, rfl, zeroEl⟩, ⟨⟨_, rfl⟩, rfl, zeroEl⟩, ⟨⟨_, rfl⟩, rfl, zeroEl⟩, ⟨⟨_, rfl⟩, rfl, zeroEl⟩, ?_, ?_, ?_, ?_, trivial⟩
          · exact ⟨⟨_, rfl⟩, fun a' u K0 R hS hr ho h => wp_loadr structEl (.tmp 8) rfl ((ho 8 (by decide)).trans rfl) (hS.s (g8, 27, (uv (fam 5 (mlF (adF Y1 X1) (adF Y2 X2)))).toArray) (by simp)) rfl (h u (Kept.refl _ _))⟩
          · exact ⟨⟨_, rfl⟩, fun a' u K0 R hS hr ho h => wp_loadr structEl (.tmp 7) rfl ((ho 7 (by decide)).trans rfl) (hS.s (g7, 27, (uv (fam 5 (mlF (suF Y1 X1) (suF Y2 X2)))).toArray) (by simp)) rfl (h u (Kept.refl _ _))⟩
          · refine ⟨⟨_, rfl⟩, fun a' u K0 R hS hr ho h => ?_⟩
            refine wp_callf rfl enters_sub (vs := #[el (mlF (adF Y1 X1) (adF Y2 X2)), el (mlF (suF Y1 X1) (suF Y2 X2))]) ?_ (k10.out u) h
            have h0 := hr 0 (el (mlF (adF Y1 X1) (adF Y2 X2))) 52 _ rfl rfl rfl ⟨⟨0, .data⟩, by simp, rfl, rfl⟩
            have h1 := hr 1 (el (mlF (suF Y1 X1) (suF Y2 X2))) 53 _ rfl rfl rfl ⟨⟨1, .data⟩, by simp, rfl, rfl⟩
            simp [Act.eval] at h0 h1 ⊢
            exact ⟨h0, h1⟩
          · exact ⟨⟨_, rfl⟩, fun a' u K0 R hS hr ho h => wp_loadr structEl (.tmp 10) rfl ((ho 10 (by decide)).trans rfl) (hS.s (g10, 27, (uv (fam 5 (adF (mlF Z1 Z2) (mlF Z1 Z2)))).toArray) (by simp)) rfl (h u (Kept.refl _ _))⟩
          · exact ⟨⟨_, rfl⟩, fun a' u K0 R hS hr ho h => wp_loadr structEl (.tmp 9) rfl ((ho 9 (by decide)).trans rfl) (hS.s (g9, 27, (uv (fam 5 (mlF (mlF T1 K) T2))).toArray) (by simp)) rfl (h u (Kept.refl _ _))⟩
          · refine ⟨⟨_, rfl⟩, fun a' u K0 R hS hr ho h => ?_⟩
            refine wp_callf rfl enters_sub (vs := #[el (adF (mlF Z1 Z2) (mlF Z1 Z2)), el (mlF (mlF T1 K) T2)]) ?_ (k11.out u) h
            have h0 := hr 3 (el (adF (mlF Z1 Z2) (mlF Z1 Z2))) 55 _ rfl rfl rfl ⟨⟨3, .data⟩, by simp, rfl, rfl⟩
            have h1 := hr 4 (el (mlF (mlF T1 K) T2)) 56 _ rfl rfl rfl ⟨⟨4, .data⟩, by simp, rfl, rfl⟩
            simp [Act.eval] at h0 h1 ⊢
            exact ⟨h0, h1⟩
          · exact ⟨⟨_, rfl⟩, fun a' u K0 R hS hr ho h => wp_loadr structEl (.tmp 10) rfl ((ho 10 (by decide)).trans rfl) (hS.s (g10, 27, (uv (fam 5 (adF (mlF Z1 Z2) (mlF Z1 Z2)))).toArray) (by simp)) rfl (h u (Kept.refl _ _))⟩
          · exact ⟨⟨_, rfl⟩, fun a' u K0 R hS hr ho h => wp_loadr structEl (.tmp 9) rfl ((ho 9 (by decide)).trans rfl) (hS.s (g9, 27, (uv (fam 5 (mlF (mlF T1 K) T2))).toArray) (by simp)) rfl (h u (Kept.refl _ _))⟩
          · refine ⟨⟨_, rfl⟩, fun a' u K0 R hS hr ho h => ?_⟩
            refine wp_callf rfl enters_add (vs := #[el (adF (mlF Z1 Z2) (mlF Z1 Z2)), el (mlF (mlF T1 K) T2)]) ?_ (k12.out u) h
            have h0 := hr 6 (el (adF (mlF Z1 Z2) (mlF Z1 Z2))) 58 _ rfl rfl rfl ⟨⟨6, .data⟩, by simp, rfl, rfl⟩
            have h1 := hr 7 (el (mlF (mlF T1 K) T2)) 59 _ rfl rfl rfl ⟨⟨7, .data⟩, by simp, rfl, rfl⟩
            simp [Act.eval] at h0 h1 ⊢
            exact ⟨h0, h1⟩
          · exact ⟨⟨_, rfl⟩, fun a' u K0 R hS hr ho h => wp_loadr structEl (.tmp 8) rfl ((ho 8 (by decide)).trans rfl) (hS.s (g8, 27, (uv (fam 5 (mlF (adF Y1 X1) (adF Y2 X2)))).toArray) (by simp)) rfl (h u (Kept.refl _ _))⟩
          · exact ⟨⟨_, rfl⟩, fun a' u K0 R hS hr ho h => wp_loadr structEl (.tmp 7) rfl ((ho 7 (by decide)).trans rfl) (hS.s (g7, 27, (uv (fam 5 (mlF (suF Y1 X1) (suF Y2 X2)))).toArray) (by simp)) rfl (h u (Kept.refl _ _))⟩
          · refine ⟨⟨_, rfl⟩, fun a' u K0 R hS hr ho h => ?_⟩
            refine wp_callf rfl enters_add (vs := #[el (mlF (adF Y1 X1) (adF Y2 X2)), el (mlF (suF Y1 X1) (suF Y2 X2))]) ?_ (k13.out u) h
            have h0 := hr 9 (el (mlF (adF Y1 X1) (adF Y2 X2))) 61 _ rfl rfl rfl ⟨⟨9, .data⟩, by simp, rfl, rfl⟩
            have h1 := hr 10 (el (mlF (suF Y1 X1) (suF Y2 X2))) 62 _ rfl rfl rfl ⟨⟨10, .data⟩, by simp, rfl, rfl⟩
            simp [Act.eval] at h0 h1 ⊢
            exact ⟨h0, h1⟩
          · exact ⟨rfl, ⟨⟨12, .data⟩, by simp, rfl, rfl⟩, ⟨⟨2, .data⟩, by simp, rfl, rfl⟩, _, _, _, _, _, _, _, _, rfl, rfl, rfl, rfl, rfl, rfl, rfl, structEl, rfl, rfl, one_el _⟩
          · exact ⟨rfl, ⟨⟨13, .data⟩, by simp, rfl, rfl⟩, ⟨⟨5, .data⟩, by simp, rfl, rfl⟩, _, _, _, _, _, _, _, _, rfl, rfl, rfl, rfl, rfl, rfl, rfl, structEl, rfl, rfl, one_el _⟩
          · exact ⟨rfl, ⟨⟨14, .data⟩, by simp, rfl, rfl⟩, ⟨⟨8, .data⟩, by simp, rfl, rfl⟩, _, _, _, _, _, _, _, _, rfl, rfl, rfl, rfl, rfl, rfl, rfl, structEl, rfl, rfl, one_el _⟩
          · exact ⟨rfl, ⟨⟨15, .data⟩, by simp, rfl, rfl⟩, ⟨⟨11, .data⟩, by simp, rfl, rfl⟩, _, _, _, _, _, _, _, _, rfl, rfl, rfl, rfl, rfl, rfl, rfl, structEl, rfl, rfl, one_el _⟩
        · intro γ w16 hS hγ hne hput
          have b11 := hput 16 12 2 _ _ _ rfl rfl
          have b12 := hput 17 13 5 _ _ _ rfl rfl
          have b13 := hput 18 14 8 _ _ _ rfl rfl
          have b14 := hput 19 15 11 _ _ _ rfl rfl
          have hf11 := hγ 12 _ _ rfl
          have hf12 := hγ 13 _ _ rfl
          have hf13 := hγ 14 _ _ rfl
          have hf14 := hγ 15 _ _ rfl
          generalize e11 : γ 12 = g11 at *
          generalize e12 : γ 13 = g12 at *
          generalize e13 : γ 14 = g13 at *
          generalize e14 : γ 15 = g14 at *
          simp [actOf, VK, List.range, List.range.loop, Act.put, e11, e12, e13, e14]
          replace t := Lib.hid (show Pm w [(g14, 27, (uv (fam 5 (adF (mlF (adF Y1 X1) (adF Y2 X2)) (mlF (suF Y1 X1) (suF Y2 X2))))).toArray), (g13, 27, (uv (fam 5 (adF (adF (mlF Z1 Z2) (mlF Z1 Z2)) (mlF (mlF T1 K) T2)))).toArray), (g12, 27, (uv (fam 5 (suF (adF (mlF Z1 Z2) (mlF Z1 Z2)) (mlF (mlF T1 K) T2)))).toArray), (g11, 27, (uv (fam 5 (suF (mlF (adF Y1 X1) (adF Y2 X2)) (mlF (suF Y1 X1) (suF Y2 X2))))).toArray), (g10, 27, (uv (fam 5 (adF (mlF Z1 Z2) (mlF Z1 Z2)))).toArray), (g9, 27, (uv (fam 5 (mlF (mlF T1 K) T2))).toArray), (g8, 27, (uv (fam 5 (mlF (adF Y1 X1) (adF Y2 X2)))).toArray), (g7, 27, (uv (fam 5 (mlF (suF Y1 X1) (suF Y2 X2)))).toArray), (g6, 29, (ptc nought nought nought nought).toArray), (g5, 27, (uv (fam 5 K)).toArray), (g4, 29, (ptc X2 Y2 Z2 T2).toArray), (g3, 29, (ptc X1 Y1 Z1 T1).toArray)] w16 from ((((hS).cons b11).cons b12).cons b13).cons b14)
          clear b11 b12 b13 b14 hput hne hγ hS e11 e12 e13 e14 hf11 hf12 hf13 hf14
          go_wp2_with fail
          refine wp_last (by kernel_rfl) [el (suF (mlF (adF Y1 X1) (adF Y2 X2)) (mlF (suF Y1 X1) (suF Y2 X2))), el (suF (adF (mlF Z1 Z2) (mlF Z1 Z2)) (mlF (mlF T1 K) T2)), el (mlF (suF (mlF (adF Y1 X1) (adF Y2 X2)) (mlF (suF Y1 X1) (suF Y2 X2))) (suF (adF (mlF Z1 Z2) (mlF Z1 Z2)) (mlF (mlF T1 K) T2))), el (adF (adF (mlF Z1 Z2) (mlF Z1 Z2)) (mlF (mlF T1 K) T2)), el (adF (mlF (adF Y1 X1) (adF Y2 X2)) (mlF (suF Y1 X1) (suF Y2 X2))), el (mlF (adF (adF (mlF Z1 Z2) (mlF Z1 Z2)) (mlF (mlF T1 K) T2)) (adF (mlF (adF Y1 X1) (adF Y2 X2)) (mlF (suF Y1 X1) (suF Y2 X2)))), el (suF (adF (mlF Z1 Z2) (mlF Z1 Z2)) (mlF (mlF T1 K) T2)), el (adF (adF (mlF Z1 Z2) (mlF Z1 Z2)) (mlF (mlF T1 K) T2)), el (mlF (suF (adF (mlF Z1 Z2) (mlF Z1 Z2)) (mlF (mlF T1 K) T2)) (adF (adF (mlF Z1 Z2) (mlF Z1 Z2)) (mlF (mlF T1 K) T2))), el (suF (mlF (adF Y1 X1) (adF Y2 X2)) (mlF (suF Y1 X1) (suF Y2 X2))), el (adF (mlF (adF Y1 X1) (adF Y2 X2)) (mlF (suF Y1 X1) (suF Y2 X2))), el (mlF (suF (mlF (adF Y1 X1) (adF Y2 X2)) (mlF (suF Y1 X1) (suF Y2 X2))) (adF (mlF (adF Y1 X1) (adF Y2 X2)) (mlF (suF Y1 X1) (suF Y2 X2)))), pv (mlF (suF (mlF (adF Y1 X1) (adF Y2 X2)) (mlF (suF Y1 X1) (suF Y2 X2))) (suF (adF (mlF Z1 Z2) (mlF Z1 Z2)) (mlF (mlF T1 K) T2))) (mlF (adF (adF (mlF Z1 Z2) (mlF Z1 Z2)) (mlF (mlF T1 K) T2)) (adF (mlF (adF Y1 X1) (adF Y2 X2)) (mlF (suF Y1 X1) (suF Y2 X2)))) (mlF (suF (adF (mlF Z1 Z2) (mlF Z1 Z2)) (mlF (mlF T1 K) T2)) (adF (adF (mlF Z1 Z2) (mlF Z1 Z2)) (mlF (mlF T1 K) T2))) (mlF (suF (mlF (adF Y1 X1) (adF Y2 X2)) (mlF (suF Y1 X1) (suF Y2 X2))) (adF (mlF (adF Y1 X1) (adF Y2 X2)) (mlF (suF Y1 X1) (suF Y2 X2))))]
            (Pm w [(g14, 27, (uv (fam 5 (adF (mlF (adF Y1 X1) (adF Y2 X2)) (mlF (suF Y1 X1) (suF Y2 X2))))).toArray), (g13, 27, (uv (fam 5 (adF (adF (mlF Z1 Z2) (mlF Z1 Z2)) (mlF (mlF T1 K) T2)))).toArray), (g12, 27, (uv (fam 5 (suF (adF (mlF Z1 Z2) (mlF Z1 Z2)) (mlF (mlF T1 K) T2)))).toArray), (g11, 27, (uv (fam 5 (suF (mlF (adF Y1 X1) (adF Y2 X2)) (mlF (suF Y1 X1) (suF Y2 X2))))).toArray), (g10, 27, (uv (fam 5 (adF (mlF Z1 Z2) (mlF Z1 Z2)))).toArray), (g9, 27, (uv (fam 5 (mlF (mlF T1 K) T2))).toArray), (g8, 27, (uv (fam 5 (mlF (adF Y1 X1) (adF Y2 X2)))).toArray), (g7, 27, (uv (fam 5 (mlF (suF Y1 X1) (suF Y2 X2)))).toArray), (g6, 29, (ptc nought nought nought nought).toArray), (g5, 27, (uv (fam 5 K)).toArray), (g4, 29, (ptc X2 Y2 Z2 T2).toArray), (g3, 29, (ptc X1 Y1 Z1 T1).toArray)]) (by kernel_rfl) rfl rfl (by kernel_rfl) t.out.drew (fun u u' h hk => h.kept hk) ?_ ?_
          · refine ⟨?_, ?_, ?_, ?_, ?_, ?_, ?_, ?_, ?_, ?_, ?_, ?_, ?_, trivial⟩
            · exact fun a' u K0 R hS hr ho h => wp_loadr structEl (.tmp 11) rfl ((ho 11 (by decide)).trans rfl) (hS.s (g11, 27, (uv (fam 5 (suF (mlF (adF Y1 X1) (adF Y2 X2)) (mlF (suF Y1 X1) (suF Y2 X2))))).toArray) (by simp)) rfl (h u (Kept.refl _ _))
            · exact fun a' u K0 R hS hr ho h => wp_loadr structEl (.tmp 12) rfl ((ho 12 (by decide)).trans rfl) (hS.s (g12, 27, (uv (fam 5 (suF (adF (mlF Z1 Z2) (mlF Z1 Z2)) (mlF (mlF T1 K) T2)))).toArray) (by simp)) rfl (h u (Kept.refl _ _))
            · refine fun a' u K0 R hS hr ho h => ?_
              refine wp_callf rfl enters_mul (vs := #[el (suF (mlF (adF Y1 X1) (adF Y2 X2)) (mlF (suF Y1 X1) (suF Y2 X2))), el (suF (adF (mlF Z1 Z2) (mlF Z1 Z2)) (mlF (mlF T1 K) T2))]) ?_ (k14.out u) h
              have h0 := hr 0 (el (suF (mlF (adF Y1 X1) (adF Y2 X2)) (mlF (suF Y1 X1) (suF Y2 X2)))) 64 _ rfl rfl rfl ⟨⟨0, .data⟩, by simp, rfl, rfl⟩
              have h1 := hr 1 (el (suF (adF (mlF Z1 Z2) (mlF Z1 Z2)) (mlF (mlF T1 K) T2))) 65 _ rfl rfl rfl ⟨⟨1, .data⟩, by simp, rfl, rfl⟩
              simp [Act.eval] at h0 h1 ⊢
              exact ⟨h0, h1⟩
            · exact fun a' u K0 R hS hr ho h => wp_loadr structEl (.tmp 13) rfl ((ho 13 (by decide)).trans rfl) (hS.s (g13, 27, (uv (fam 5 (adF (adF (mlF Z1 Z2) (mlF Z1 Z2)) (mlF (mlF T1 K) T2)))).toArray) (by simp)) rfl (h u (Kept.refl _ _))
            · exact fun a' u K0 R hS hr ho h => wp_loadr structEl (.tmp 14) rfl ((ho 14 (by decide)).trans rfl) (hS.s (g14, 27, (uv (fam 5 (adF (mlF (adF Y1 X1) (adF Y2 X2)) (mlF (suF Y1 X1) (suF Y2 X2))))).toArray) (by simp)) rfl (h u (Kept.refl _ _))
            · refine fun a' u K0 R hS hr ho h => ?_
              refine wp_callf rfl enters_mul (vs := #[el (adF (adF (mlF Z1 Z2) (mlF Z1 Z2)) (mlF (mlF T1 K) T2)), el (adF (mlF (adF Y1 X1) (adF Y2 X2)) (mlF (suF Y1 X1) (suF Y2 X2)))]) ?_ (k15.out u) h
              have h0 := hr 3 (el (adF (adF (mlF Z1 Z2) (mlF Z1 Z2)) (mlF (mlF T1 K) T2))) 67 _ rfl rfl rfl ⟨⟨3, .data⟩, by simp, rfl, rfl⟩
              have h1 := hr 4 (el (adF (mlF (adF Y1 X1) (adF Y2 X2)) (mlF (suF Y1 X1) (suF Y2 X2)))) 68 _ rfl rfl rfl ⟨⟨4, .data⟩, by simp, rfl, rfl⟩
              simp [Act.eval] at h0 h1 ⊢
              exact ⟨h0, h1⟩
            · exact fun a' u K0 R hS hr ho h => wp_loadr structEl (.tmp 12) rfl ((ho 12 (by decide)).trans rfl) (hS.s (g12, 27, (uv (fam 5 (suF (adF (mlF Z1 Z2) (mlF Z1 Z2)) (mlF (mlF T1 K) T2)))).toArray) (by simp)) rfl (h u (Kept.refl _ _))
            · exact fun a' u K0 R hS hr ho h => wp_loadr structEl (.tmp 13) rfl ((ho 13 (by decide)).trans rfl) (hS.s (g13, 27, (uv (fam 5 (adF (adF (mlF Z1 Z2) (mlF Z1 Z2)) (mlF (mlF T1 K) T2)))).toArray) (by simp)) rfl (h u (Kept.refl _ _))
            · refine fun a' u K0 R hS hr ho h => ?_
              refine wp_callf rfl enters_mul (vs := #[el (suF (adF (mlF Z1 Z2) (mlF Z1 Z2)) (mlF (mlF T1 K) T2)), el (adF (adF (mlF Z1 Z2) (mlF Z1 Z2)) (mlF (mlF T1 K) T2))]) ?_ (k16.out u) h
              have h0 := hr 6 (el (suF (adF (mlF Z1 Z2) (mlF Z1 Z2)) (mlF (mlF T1 K) T2))) 70 _ rfl rfl rfl ⟨⟨6, .data⟩, by simp, rfl, rfl⟩
              have h1 := hr 7 (el (adF (adF (mlF Z1 Z2) (mlF Z1 Z2)) (mlF (mlF T1 K) T2))) 71 _ rfl rfl rfl ⟨⟨7, .data⟩, by simp, rfl, rfl⟩
              simp [Act.eval] at h0 h1 ⊢
              exact ⟨h0, h1⟩
            · exact fun a' u K0 R hS hr ho h => wp_loadr structEl (.tmp 11) rfl ((ho 11 (by decide)).trans rfl) (hS.s (g11, 27, (uv (fam 5 (suF (mlF (adF Y1 X1) (adF Y2 X2)) (mlF (suF Y1 X1) (suF Y2 X2))))).toArray) (by simp)) rfl (h u (Kept.refl _ _))
            · exact fun a' u K0 R hS hr ho h => wp_loadr structEl (.tmp 14) rfl ((ho 14 (by decide)).trans rfl) (hS.s (g14, 27, (uv (fam 5 (adF (mlF (adF Y1 X1) (adF Y2 X2)) (mlF (suF Y1 X1) (suF Y2 X2))))).toArray) (by simp)) rfl (h u (Kept.refl _ _))
            · refine fun a' u K0 R hS hr ho h => ?_
              refine wp_callf rfl enters_mul (vs := #[el (suF (mlF (adF Y1 X1) (adF Y2 X2)) (mlF (suF Y1 X1) (suF Y2 X2))), el (adF (mlF (adF Y1 X1) (adF Y2 X2)) (mlF (suF Y1 X1) (suF Y2 X2)))]) ?_ (k17.out u) h
              have h0 := hr 9 (el (suF (mlF (adF Y1 X1) (adF Y2 X2)) (mlF (suF Y1 X1) (suF Y2 X2)))) 73 _ rfl rfl rfl ⟨⟨9, .data⟩, by simp, rfl, rfl⟩
              have h1 := hr 10 (el (adF (mlF (adF Y1 X1) (adF Y2 X2)) (mlF (suF Y1 X1) (suF Y2 X2)))) 74 _ rfl rfl rfl ⟨⟨10, .data⟩, by simp, rfl, rfl⟩
              simp [Act.eval] at h0 h1 ⊢
              exact ⟨h0, h1⟩
            · refine fun a' u K0 R hS hr ho h => ?_
              have h0 := hr 2 (el (mlF (suF (mlF (adF Y1 X1) (adF Y2 X2)) (mlF (suF Y1 X1) (suF Y2 X2))) (suF (adF (mlF Z1 Z2) (mlF Z1 Z2)) (mlF (mlF T1 K) T2)))) 66 _ rfl rfl rfl ⟨⟨2, .data⟩, by simp, rfl, rfl⟩
              have h1 := hr 5 (el (mlF (adF (adF (mlF Z1 Z2) (mlF Z1 Z2)) (mlF (mlF T1 K) T2)) (adF (mlF (adF Y1 X1) (adF Y2 X2)) (mlF (suF Y1 X1) (suF Y2 X2))))) 69 _ rfl rfl rfl ⟨⟨5, .data⟩, by simp, rfl, rfl⟩
              have h2 := hr 8 (el (mlF (suF (adF (mlF Z1 Z2) (mlF Z1 Z2)) (mlF (mlF T1 K) T2)) (adF (adF (mlF Z1 Z2) (mlF Z1 Z2)) (mlF (mlF T1 K) T2)))) 72 _ rfl rfl rfl ⟨⟨8, .data⟩, by simp, rfl, rfl⟩
              have h3 := hr 11 (el (mlF (suF (mlF (adF Y1 X1) (adF Y2 X2)) (mlF (suF Y1 X1) (suF Y2 X2))) (adF (mlF (adF Y1 X1) (adF Y2 X2)) (mlF (suF Y1 X1) (suF Y2 X2))))) 75 _ rfl rfl rfl ⟨⟨11, .data⟩, by simp, rfl, rfl⟩
              exact wp_buildp rfl h0 h1 h2 h3 (h u (Kept.refl _ _))
          intro u7 hS7
          simp [actOf, List.range, List.range.loop, Act.put]
          refine wp_storer structPt (.tmp 6) (.tmp 76) rfl rfl rfl (hS7.s (g6, 29, (ptc nought nought nought nought).toArray) (by simp)) (ptc_size _ _ _ _) (ptc_size _ _ _ _) (one_pt _ _ _ _) ?_
          simp [Act.put]
          have b7 := (hS7.s (g6, 29, (ptc nought nought nought nought).toArray) (by simp)).setRow_ (ptc (mlF (suF (mlF (adF Y1 X1) (adF Y2 X2)) (mlF (suF Y1 X1) (suF Y2 X2))) (suF (adF (mlF Z1 Z2) (mlF Z1 Z2)) (mlF (mlF T1 K) T2))) (mlF (adF (adF (mlF Z1 Z2) (mlF Z1 Z2)) (mlF (mlF T1 K) T2)) (adF (mlF (adF Y1 X1) (adF Y2 X2)) (mlF (suF Y1 X1) (suF Y2 X2)))) (mlF (suF (adF (mlF Z1 Z2) (mlF Z1 Z2)) (mlF (mlF T1 K) T2)) (adF (adF (mlF Z1 Z2) (mlF Z1 Z2)) (mlF (mlF T1 K) T2))) (mlF (suF (mlF (adF Y1 X1) (adF Y2 X2)) (mlF (suF Y1 X1) (suF Y2 X2))) (adF (mlF (adF Y1 X1) (adF Y2 X2)) (mlF (suF Y1 X1) (suF Y2 X2))))).toArray
          have kk7 : Kept [g6] u7 (u7.setRow g6 (ptc (mlF (suF (mlF (adF Y1 X1) (adF Y2 X2)) (mlF (suF Y1 X1) (suF Y2 X2))) (suF (adF (mlF Z1 Z2) (mlF Z1 Z2)) (mlF (mlF T1 K) T2))) (mlF (adF (adF (mlF Z1 Z2) (mlF Z1 Z2)) (mlF (mlF T1 K) T2)) (adF (mlF (adF Y1 X1) (adF Y2 X2)) (mlF (suF Y1 X1) (suF Y2 X2)))) (mlF (suF (adF (mlF Z1 Z2) (mlF Z1 Z2)) (mlF (mlF T1 K) T2)) (adF (adF (mlF Z1 Z2) (mlF Z1 Z2)) (mlF (mlF T1 K) T2))) (mlF (suF (mlF (adF Y1 X1) (adF Y2 X2)) (mlF (suF Y1 X1) (suF Y2 X2))) (adF (mlF (adF Y1 X1) (adF Y2 X2)) (mlF (suF Y1 X1) (suF Y2 X2))))).toArray) := (Kept.refl [g6] u7).setRow (.inl (by simp)) _
          have k7 := hS7.k.then1 kk7 hl6.out
          clear kk7 hS7
          go_wp2_with fail
          exact ret_row structPt rfl rfl b7 (ptc_size _ _ _ _) rfl ⟨rfl, k7⟩
end Go.Proofs.Ytkflljjcgihaoaa

namespace Go.Proofs.Ytkflljjcgihaoaa
open Go.RowKit Go.Mem Go.Txt

theorem enters_small (xs : Array Value) (w : World) : (callFunc 34 xs).run Try.prog w = .ok (.enter 34 xs) w := enters_of (c := _) Try.func34 (by kernel_rfl) rfl xs w
theorem small1 : ∀ w, Calls Try.prog 34 #[.int .u64 1] w fun e w' => e = .returned (el (smL 1)) ∧ Kept [] w w' := fun w => small_any 1 w (by decide)
theorem small0 : ∀ w, Calls Try.prog 34 #[.int .u64 0] w fun e w' => e = .returned (el (smL 0)) ∧ Kept [] w w' := fun w => small_any 0 w (by decide)
abbrev AfC (X Y : Nat → Nat) : Prop := ∀ W, Calls Try.prog 40 #[el X, el Y] W fun e w' => e = .returned (pv X Y (smL 1) (mlF X Y)) ∧ Kept [] W w'

set_option maxRecDepth 100000 in
set_option maxHeartbeats 1600000 in
theorem affine_any (X Y : Nat → Nat) (lX : Lim X) (lY : Lim Y) : AfC X Y := by
  intro w
  have cm := Lib.hid (ml_l lX lY)
  clear lX lY
  go_enter Try.func40, Try.ntmps40
  go_wp2_with (first
    | ((with_reducible refine wpl_box (o := ⟨some 2, _, _, _, _, _⟩) (v := el X) rfl (.tmp 0) rfl rfl ?_); intro g2 w2 m2)
    | ((with_reducible refine wpl_box (o := ⟨some 3, _, _, _, _, _⟩) (v := el Y) rfl (.tmp 1) rfl rfl ?_); intro g3 w3 m3)
    | ((with_reducible refine wpl_new (o := ⟨some 4, _, _, _, _, _⟩) rfl rfl zeroPt ?_); intro g4 w4 m4))
  have t0 := ((((Pm.none w).kept m2.kept).cons m2.blk).kept m3.kept |>.cons m3.blk).kept m4.kept
  have hl4 := Lib.hid (Nat.le_trans (m2.kept.then0 m3.kept).size m4.le)
  have t := Lib.hid (show Pm w [(g4, 29, (ptc nought nought nought nought).toArray), (g3, 27, (uv (fam 5 Y)).toArray), (g2, 27, (uv (fam 5 X)).toArray)] w4 from t0.cons m4.blk)
  clear m2 m3 m4 t0
  refine wp_last (by kernel_rfl) [el X, el Y, el (smL 1), el X, el Y, el (mlF X Y), pv X Y (smL 1) (mlF X Y)]
    (Pm w [(g4, 29, (ptc nought nought nought nought).toArray), (g3, 27, (uv (fam 5 Y)).toArray), (g2, 27, (uv (fam 5 X)).toArray)]) (by kernel_rfl) rfl rfl (by kernel_rfl) t.out.drew (fun u u' h hk => h.kept hk) ?_ ?_
  · refine ⟨?_, ?_, ?_, ?_, ?_, ?_, ?_, trivial⟩
    · exact fun a' u K0 R hS hr ho h => wp_loadr structEl (.tmp 2) rfl ((ho 2 (by decide)).trans rfl) (hS.s (g2, 27, (uv (fam 5 X)).toArray) (by simp)) rfl (h u (Kept.refl _ _))
    · exact fun a' u K0 R hS hr ho h => wp_loadr structEl (.tmp 3) rfl ((ho 3 (by decide)).trans rfl) (hS.s (g3, 27, (uv (fam 5 Y)).toArray) (by simp)) rfl (h u (Kept.refl _ _))
    · exact fun a' u K0 R hS hr ho h => wp_callf rfl enters_small (vs := #[.int .u64 1]) (by simp [Act.eval]) (small1 u) h
    · exact fun a' u K0 R hS hr ho h => wp_loadr structEl (.tmp 2) rfl ((ho 2 (by decide)).trans rfl) (hS.s (g2, 27, (uv (fam 5 X)).toArray) (by simp)) rfl (h u (Kept.refl _ _))
    · exact fun a' u K0 R hS hr ho h => wp_loadr structEl (.tmp 3) rfl ((ho 3 (by decide)).trans rfl) (hS.s (g3, 27, (uv (fam 5 Y)).toArray) (by simp)) rfl (h u (Kept.refl _ _))
    · refine fun a' u K0 R hS hr ho h => ?_
      refine wp_callf rfl enters_mul (vs := #[el X, el Y]) ?_ (cm.out u) h
      have h0 := hr 3 (el X) 8 _ rfl rfl rfl ⟨⟨3, .data⟩, by simp, rfl, rfl⟩
      have h1 := hr 4 (el Y) 9 _ rfl rfl rfl ⟨⟨4, .data⟩, by simp, rfl, rfl⟩
      simp [Act.eval] at h0 h1 ⊢
      exact ⟨h0, h1⟩
    · refine fun a' u K0 R hS hr ho h => ?_
      have h0 := hr 0 (el X) 5 _ rfl rfl rfl ⟨⟨0, .data⟩, by simp, rfl, rfl⟩
      have h1 := hr 1 (el Y) 6 _ rfl rfl rfl ⟨⟨1, .data⟩, by simp, rfl, rfl⟩
      have h2 := hr 2 (el (smL 1)) 7 _ rfl rfl rfl ⟨⟨2, .data⟩, by simp, rfl, rfl⟩
      have h3 := hr 5 (el (mlF X Y)) 10 _ rfl rfl rfl ⟨⟨5, .data⟩, by simp, rfl, rfl⟩
      exact wp_buildp rfl h0 h1 h2 h3 (h u (Kept.refl _ _))
  intro u7 hS7
  simp [actOf, List.range, List.range.loop, Act.put]
  refine wp_storer structPt (.tmp 4) (.tmp 11) rfl rfl rfl (hS7.s (g4, 29, (ptc nought nought nought nought).toArray) (by simp)) (ptc_size _ _ _ _) (ptc_size _ _ _ _) (one_pt _ _ _ _) ?_
  simp [Act.put]
  have b7 := (hS7.s (g4, 29, (ptc nought nought nought nought).toArray) (by simp)).setRow_ (ptc X Y (smL 1) (mlF X Y)).toArray
  have kk7 : Kept [g4] u7 (u7.setRow g4 (ptc X Y (smL 1) (mlF X Y)).toArray) := (Kept.refl [g4] u7).setRow (.inl (by simp)) _
  have k7 := hS7.k.then1 kk7 hl4.out
  clear kk7 hS7
  go_wp2_with fail
  exact ret_row structPt rfl rfl b7 (ptc_size _ _ _ _) rfl ⟨rfl, k7⟩

/-- Equality of points, cell by cell. -/
def li (X : Nat → Nat) : List Lit := (fam 5 X).map fun (n : Nat) => Lit.int .u64 (n : Int)
def lits (X Y Z T : Nat → Nat) : List Lit := li X ++ (li Y ++ (li Z ++ li T))
theorem wf64 (n : Nat) (h : n < 18446744073709551616) : (Lit.int .u64 (n : Int)).wf = true := by
  simp [Lit.wf, IntKind.min, IntKind.max, IntKind.signed, IntKind.bits]
  omega
theorem kl_u (d n : Nat) (h : n < 18446744073709551616) : Try.prog.keyLits (d + 1) 24 [.int .u64 (n : Int)] = some [.int .u64 (n : Int)] := by
  unfold Program.keyLits
  rw [Try.underlying24]
  simp [wf64 n h]
theorem kl_a (d : Nat) (X : Nat → Nat) (h : Lim X) : Try.prog.keyLits (d + 2) 25 (uv (fam 5 X)) = some (li X) := by
  have hb : ∀ i, i < 5 → X i < 18446744073709551616 := fun i hi => by have := h i hi; omega
  unfold Program.keyLits
  rw [Try.underlying25]
  have c1 : Try.prog.cellsOf 25 = 5 := by kernel_rfl
  have c2 : Try.prog.cellsOf 24 = 1 := by kernel_rfl
  simp only [c1, c2]
  simp [fam, List.range, List.range.loop, li, kl_u d _ (hb 0 (by omega)), kl_u d _ (hb 1 (by omega)), kl_u d _ (hb 2 (by omega)), kl_u d _ (hb 3 (by omega)), kl_u d _ (hb 4 (by omega))]
theorem kl_e (d : Nat) (X : Nat → Nat) (h : Lim X) : Try.prog.keyLits (d + 3) 27 (uv (fam 5 X)) = some (li X) := by
  unfold Program.keyLits
  rw [Try.underlying27]
  have c1 : Try.prog.cellsOf 27 = 5 := by kernel_rfl
  have c2 : Try.prog.cellsOf 25 = 5 := by kernel_rfl
  have hl : (uv (fam 5 X)).length = 5 := by simp [fam_len]
  have h5 := kl_a d X h
  simp only [c1, hl]
  simp [c2, List.take_of_length_le (Nat.le_of_eq hl), h5]
theorem kl_p (d : Nat) (X Y Z T : Nat → Nat) (hX : Lim X) (hY : Lim Y) (hZ : Lim Z) (hT : Lim T) : Try.prog.keyLits (d + 4) 29 (ptc X Y Z T) = some (lits X Y Z T) := by
  unfold Program.keyLits
  rw [Try.underlying29]
  have c1 : Try.prog.cellsOf 29 = 20 := by kernel_rfl
  have c2 : Try.prog.cellsOf 27 = 5 := by kernel_rfl
  have hl := ptc_len X Y Z T
  have l5 : ∀ F, (uv (fam 5 F)).length = 5 := uv5_len
  have e0 : (ptc X Y Z T).take 5 = uv (fam 5 X) := by unfold ptc; rw [List.take_left' (l5 X)]
  have e1 : ((ptc X Y Z T).drop 5).take 5 = uv (fam 5 Y) := by unfold ptc; rw [List.drop_left' (l5 X), List.take_left' (l5 Y)]
  have e2 : ((ptc X Y Z T).drop 10).take 5 = uv (fam 5 Z) := by unfold ptc; rw [← List.append_assoc, List.drop_left' (by rw [List.length_append, l5, l5]), List.take_left' (l5 Z)]
  have e3 : ((ptc X Y Z T).drop 15).take 5 = uv (fam 5 T) := by unfold ptc; rw [← List.append_assoc, ← List.append_assoc, List.drop_left' (by rw [List.length_append, List.length_append, l5, l5, l5]), List.take_of_length_le (Nat.le_of_eq (l5 T))]
  simp only [c1, hl]
  simp [lits, c2, e0, e1, e2, e3, kl_e d _ hX, kl_e d _ hY, kl_e d _ hZ, kl_e d _ hT]
theorem key_pt : Try.prog.keyTypeAt 10 29 = true := by kernel_rfl
theorem formed_pt (X Y Z T : Nat → Nat) : (pv X Y Z T).formed Try.prog 29 = true := by kernel_rfl
theorem eq_pt {X Y Z T X' Y' Z' T' : Nat → Nat} (hX : Lim X) (hY : Lim Y) (hZ : Lim Z) (hT : Lim T) (hX' : Lim X') (hY' : Lim Y') (hZ' : Lim Z') (hT' : Lim T') (W : World) : ∃ r : Bool, (Op.equalIn 10000 29 (pv X Y Z T) (pv X' Y' Z' T')).run Try.prog W = .ok r W ∧ (r = true ↔ lits X Y Z T = lits X' Y' Z' T') :=
  run_equalIn_deep (P := Try.prog) 9990 10 _ key_pt W 10 10 _ _ _ _ (formed_pt _ _ _ _) (formed_pt _ _ _ _) (kl_p 6 X Y Z T hX hY hZ hT) (kl_p 6 X' Y' Z' T' hX' hY' hZ' hT')
theorem lits_z {X Y Z T X' Y' Z' T' : Nat → Nat} (e : lits X Y Z T = lits X' Y' Z' T') (i : Nat) (hi : i < 5) : X i = X' i ∧ Y i = Y' i ∧ Z i = Z' i ∧ T i = T' i := by
  have g : ∀ k : Nat, (lits X Y Z T)[k]? = (lits X' Y' Z' T')[k]? := fun k => by rw [e]
  have h5 : i = 0 ∨ i = 1 ∨ i = 2 ∨ i = 3 ∨ i = 4 := by omega
  have g0 := g i
  have g1 := g (5 + i)
  have g2 := g (10 + i)
  have g3 := g (15 + i)
  rcases h5 with rfl | rfl | rfl | rfl | rfl <;> simp [lits, li, fam, List.range, List.range.loop] at g0 g1 g2 g3 <;> omega
theorem lim_nought : Lim nought := fun _ _ => by unfold nought; omega
theorem eq_zero_no {X Y Z T : Nat → Nat} (hX : Lim X) (hY : Lim Y) (hZ : Lim Z) (hT : Lim T) (h : fv Z % PP ≠ 0) (W : World) : (Op.equalIn 10000 29 (pv X Y Z T) (pv nought nought nought nought)).run Try.prog W = .ok false W := by
  obtain ⟨r, hr, hiff⟩ := eq_pt hX hY hZ hT lim_nought lim_nought lim_nought lim_nought W
  cases r with
  | false => exact hr
  | true =>
    exfalso
    have e := lits_z (hiff.1 rfl)
    apply h
    unfold fv
    rw [(e 0 (by omega)).2.2.1, (e 1 (by omega)).2.2.1, (e 2 (by omega)).2.2.1, (e 3 (by omega)).2.2.1, (e 4 (by omega)).2.2.1]
    rfl
theorem eq_zero_yes (W : World) : (Op.equalIn 10000 29 (pv nought nought nought nought) (pv nought nought nought nought)).run Try.prog W = .ok true W := by
  obtain ⟨r, hr, hiff⟩ := eq_pt lim_nought lim_nought lim_nought lim_nought lim_nought lim_nought lim_nought lim_nought W
  rwa [hiff.2 rfl] at hr
theorem built_zpt : Try.prog.built 29 [] = some (ptc nought nought nought nought).toArray := by kernel_rfl

set_option maxRecDepth 100000 in
set_option maxHeartbeats 1600000 in
theorem right_pt {X Y Z T : Nat → Nat} (hX : Lim X) (hY : Lim Y) (hZ : Lim Z) (hT : Lim T) (h : fv Z % PP ≠ 0) (w : World) : Calls Try.prog 50 #[pv X Y Z T] w fun e w' => e = .returned (pv X Y Z T) ∧ Kept [] w w' := by
  have q := eq_zero_no hX hY hZ hT h
  clear h hX hY hZ hT
  have u0 := Lib.hid built_zpt
  have hs := Lib.hid (ptc_size X Y Z T)
  obtain ⟨C, hC⟩ : ∃ C, C = (ptc X Y Z T).toArray := ⟨_, rfl⟩
  obtain ⟨O, hO⟩ : ∃ O, O = (ptc nought nought nought nought).toArray := ⟨_, rfl⟩
  have o1 := Lib.hid (show C.all (·.oneCell') = true from hC ▸ one_pt X Y Z T)
  have so := Lib.hid (show O.size = 20 from hO ▸ ptc_size _ _ _ _)
  have z := zeroPt
  rw [show pv X Y Z T = .agg C from by rw [hC]] at q ⊢
  rw [show pv nought nought nought nought = .agg O from by rw [hO]] at q z
  rw [← hO] at u0
  rw [← hC] at hs
  replace z := Lib.hid z
  clear hC hO
  go_enter Try.func50, Try.ntmps50
  go_wp2_with (first
    | ((with_reducible refine wpl_box (o := ⟨some 1, _, _, _, _, _⟩) (v := .agg C) rfl (.tmp 0) rfl rfl ?_); intro g1 w1 m1; have B1 := Lib.hid (show Blk w1 g1 29 C from m1.blk))
    | ((with_reducible refine wpl_new (o := ⟨some 2, _, _, _, _, _⟩) rfl rfl z.out ?_); intro g2 w2 m2; have B2 := Lib.hid (show Blk w2 g2 29 O from m2.blk))
    | (with_reducible refine wpl_load_row (o := ⟨some 3, _, _, _, _, _⟩) structPt rfl (.tmp 1) rfl rfl (B1.out.kept m2.kept (by simp)) hs.out ?_)
    | (with_reducible refine wpl_build0 (o := ⟨some 4, _, _, _, _, _⟩) rfl rfl u0.out ?_)
    | (with_reducible refine wpl_load_row (o := ⟨some 9, _, _, _, _, _⟩) structPt rfl (.tmp 1) rfl rfl (B1.out.kept m2.kept (by simp)) hs.out ?_)
    | ((with_reducible refine wpl_store_row (o := ⟨none, .store 29 (.tmp 2) (.tmp 9), _, _, _, _⟩) structPt rfl (.tmp 2) (.tmp 9) rfl rfl rfl B2.out so.out hs.out o1.out ?_); intro v2 b2 k2))
  exact ret_row structPt rfl rfl b2 hs.out rfl ⟨rfl, (m1.kept.then0 m2.kept).then1 k2 (Nat.le_trans m1.kept.size m2.le)⟩
end Go.Proofs.Ytkflljjcgihaoaa

namespace Go.Proofs.Ytkflljjcgihaoaa
open Go.RowKit Go.Mem Go.Txt

set_option maxRecDepth 100000 in
set_option maxHeartbeats 4000000 in
theorem doubled_any (X1 Y1 Z1 T1 : Nat → Nat) (lX1 : Lim X1) (lY1 : Lim Y1) (lZ1 : Lim Z1) (w : World) :
    Calls Try.prog 57 #[pv X1 Y1 Z1 T1] w fun e w' => e = .returned (pv (mlF (suF (adF (mlF X1 X1) (mlF Y1 Y1)) (mlF (adF X1 Y1) (adF X1 Y1))) (adF (adF (mlF Z1 Z1) (mlF Z1 Z1)) (suF (mlF X1 X1) (mlF Y1 Y1)))) (mlF (suF (mlF X1 X1) (mlF Y1 Y1)) (adF (mlF X1 X1) (mlF Y1 Y1))) (mlF (adF (adF (mlF Z1 Z1) (mlF Z1 Z1)) (suF (mlF X1 X1) (mlF Y1 Y1))) (suF (mlF X1 X1) (mlF Y1 Y1))) (mlF (suF (adF (mlF X1 X1) (mlF Y1 Y1)) (mlF (adF X1 Y1) (adF X1 Y1))) (adF (mlF X1 X1) (mlF Y1 Y1)))) ∧ Kept [] w w' := by
  have k0 : MlC X1 X1 (mlF X1 X1) := ml_l lX1 lX1
  replace k0 := Lib.hid k0
  have k1 : MlC Y1 Y1 (mlF Y1 Y1) := ml_l lY1 lY1
  replace k1 := Lib.hid k1
  have k2 : MlC Z1 Z1 (mlF Z1 Z1) := ml_l lZ1 lZ1
  replace k2 := Lib.hid k2
  have k3 : AdC (mlF X1 X1) (mlF Y1 Y1) (adF (mlF X1 X1) (mlF Y1 Y1)) := ad_l (mlF_lim lX1 lX1) (mlF_lim lY1 lY1)
  replace k3 := Lib.hid k3
  have k4 : AdC X1 Y1 (adF X1 Y1) := ad_l lX1 lY1
  replace k4 := Lib.hid k4
  have k5 : MlC (adF X1 Y1) (adF X1 Y1) (mlF (adF X1 Y1) (adF X1 Y1)) := ml_l (adF_lim lX1 lY1) (adF_lim lX1 lY1)
  replace k5 := Lib.hid k5
  have k6 : SuC (adF (mlF X1 X1) (mlF Y1 Y1)) (mlF (adF X1 Y1) (adF X1 Y1)) (suF (adF (mlF X1 X1) (mlF Y1 Y1)) (mlF (adF X1 Y1) (adF X1 Y1))) := su_l (adF_lim (mlF_lim lX1 lX1) (mlF_lim lY1 lY1)) (mlF_lim (adF_lim lX1 lY1) (adF_lim lX1 lY1))
  replace k6 := Lib.hid k6
  have k7 : SuC (mlF X1 X1) (mlF Y1 Y1) (suF (mlF X1 X1) (mlF Y1 Y1)) := su_l (mlF_lim lX1 lX1) (mlF_lim lY1 lY1)
  replace k7 := Lib.hid k7
  have k8 : AdC (mlF Z1 Z1) (mlF Z1 Z1) (adF (mlF Z1 Z1) (mlF Z1 Z1)) := ad_l (mlF_lim lZ1 lZ1) (mlF_lim lZ1 lZ1)
  replace k8 := Lib.hid k8
  have k9 : AdC (adF (mlF Z1 Z1) (mlF Z1 Z1)) (suF (mlF X1 X1) (mlF Y1 Y1)) (adF (adF (mlF Z1 Z1) (mlF Z1 Z1)) (suF (mlF X1 X1) (mlF Y1 Y1))) := ad_l (adF_lim (mlF_lim lZ1 lZ1) (mlF_lim lZ1 lZ1)) (suF_lim (mlF_lim lX1 lX1) (mlF_lim lY1 lY1))
  replace k9 := Lib.hid k9
  have k10 : MlC (suF (adF (mlF X1 X1) (mlF Y1 Y1)) (mlF (adF X1 Y1) (adF X1 Y1))) (adF (adF (mlF Z1 Z1) (mlF Z1 Z1)) (suF (mlF X1 X1) (mlF Y1 Y1))) (mlF (suF (adF (mlF X1 X1) (mlF Y1 Y1)) (mlF (adF X1 Y1) (adF X1 Y1))) (adF (adF (mlF Z1 Z1) (mlF Z1 Z1)) (suF (mlF X1 X1) (mlF Y1 Y1)))) := ml_l (suF_lim (adF_lim (mlF_lim lX1 lX1) (mlF_lim lY1 lY1)) (mlF_lim (adF_lim lX1 lY1) (adF_lim lX1 lY1))) (adF_lim (adF_lim (mlF_lim lZ1 lZ1) (mlF_lim lZ1 lZ1)) (suF_lim (mlF_lim lX1 lX1) (mlF_lim lY1 lY1)))
  replace k10 := Lib.hid k10
  have k11 : MlC (suF (mlF X1 X1) (mlF Y1 Y1)) (adF (mlF X1 X1) (mlF Y1 Y1)) (mlF (suF (mlF X1 X1) (mlF Y1 Y1)) (adF (mlF X1 X1) (mlF Y1 Y1))) := ml_l (suF_lim (mlF_lim lX1 lX1) (mlF_lim lY1 lY1)) (adF_lim (mlF_lim lX1 lX1) (mlF_lim lY1 lY1))
  replace k11 := Lib.hid k11
  have k12 : MlC (adF (adF (mlF Z1 Z1) (mlF Z1 Z1)) (suF (mlF X1 X1) (mlF Y1 Y1))) (suF (mlF X1 X1) (mlF Y1 Y1)) (mlF (adF (adF (mlF Z1 Z1) (mlF Z1 Z1)) (suF (mlF X1 X1) (mlF Y1 Y1))) (suF (mlF X1 X1) (mlF Y1 Y1))) := ml_l (adF_lim (adF_lim (mlF_lim lZ1 lZ1) (mlF_lim lZ1 lZ1)) (suF_lim (mlF_lim lX1 lX1) (mlF_lim lY1 lY1))) (suF_lim (mlF_lim lX1 lX1) (mlF_lim lY1 lY1))
  replace k12 := Lib.hid k12
  have k13 : MlC (suF (adF (mlF X1 X1) (mlF Y1 Y1)) (mlF (adF X1 Y1) (adF X1 Y1))) (adF (mlF X1 X1) (mlF Y1 Y1)) (mlF (suF (adF (mlF X1 X1) (mlF Y1 Y1)) (mlF (adF X1 Y1) (adF X1 Y1))) (adF (mlF X1 X1) (mlF Y1 Y1))) := ml_l (suF_lim (adF_lim (mlF_lim lX1 lX1) (mlF_lim lY1 lY1)) (mlF_lim (adF_lim lX1 lY1) (adF_lim lX1 lY1))) (adF_lim (mlF_lim lX1 lX1) (mlF_lim lY1 lY1))
  replace k13 := Lib.hid k13
  clear lX1 lY1 lZ1
  go_enter Try.func57, Try.ntmps57
  go_wp2_with (first
    | ((with_reducible refine wpl_box (o := ⟨some 1, _, _, _, _, _⟩) (v := pv X1 Y1 Z1 T1) rfl (.tmp 0) rfl rfl ?_); intro g1 w1 m1)
    | ((with_reducible refine wpl_new (o := ⟨some 2, _, _, _, _, _⟩) rfl rfl zeroPt ?_); intro g2 w2 m2))
  have t0 := (((Pm.none w).kept m1.kept).cons m1.blk).kept m2.kept
  have hl2 := Lib.hid (Nat.le_trans m1.kept.size m2.le)
  have t := Lib.hid (show Pm w [(g2, 29, (ptc nought nought nought nought).toArray), (g1, 29, (ptc X1 Y1 Z1 T1).toArray)] w2 from t0.cons m2.blk)
  clear m1 m2 t0
  refine wp_multi (by kernel_rfl) [.val (.pointer (some ⟨g1, 0, none⟩)), .val (el X1), .val (.pointer (some ⟨g1, 0, none⟩)), .val (el X1), .val (el (mlF X1 X1)), .val (.pointer (some ⟨g1, 5, none⟩)), .val (el Y1), .val (.pointer (some ⟨g1, 5, none⟩)), .val (el Y1), .val (el (mlF Y1 Y1)), .val (.pointer (some ⟨g1, 10, none⟩)), .val (el Z1), .val (.pointer (some ⟨g1, 10, none⟩)), .val (el Z1), .val (el (mlF Z1 Z1)), .new 27 (el nought), .new 27 (el nought), .new 27 (el nought), .put 15 4 (uv (fam 5 (mlF X1 X1))).toArray, .put 16 9 (uv (fam 5 (mlF Y1 Y1))).toArray, .put 17 14 (uv (fam 5 (mlF Z1 Z1))).toArray]
    (Pm w [(g2, 29, (ptc nought nought nought nought).toArray), (g1, 29, (ptc X1 Y1 Z1 T1).toArray)]) (by kernel_rfl) (by kernel_rfl) t.out.drew (fun u u' T hS hk hT => t.out.fresh u u' T hS hk hT) ?_ ?_
  · refine ⟨?_, ?_, ?_, ?_, ?_, ?_, ?_, ?_, ?_, ?_, ?_, ?_, ?_, ?_, ?_, ⟨⟨_, rfl⟩, rfl, zeroEl⟩, ⟨⟨_, rfl⟩, rfl, zeroEl⟩, ⟨⟨_, rfl⟩, rfl, zeroEl⟩, ?_, ?_, ?_, trivial⟩
    · exact ⟨⟨_, rfl⟩, fun a' u K0 R hS hr ho h => wp_fieldp (.tmp 1) rfl ((ho 1 (by decide)).trans rfl) (fa0 g1) (h u (Kept.refl _ _))⟩
    · exact ⟨⟨_, rfl⟩, fun a' u K0 R hS hr ho h => wp_loadp structEl (.tmp 11) rfl (hr 0 _ 11 _ rfl rfl rfl ⟨⟨0, .data⟩, by simp, rfl, rfl⟩) (pt_x (hS.s (g1, 29, (ptc X1 Y1 Z1 T1).toArray) (by simp))) (uv5_len _) (h u (Kept.refl _ _))⟩
    · exact ⟨⟨_, rfl⟩, fun a' u K0 R hS hr ho h => wp_fieldp (.tmp 1) rfl ((ho 1 (by decide)).trans rfl) (fa0 g1) (h u (Kept.refl _ _))⟩
    · exact ⟨⟨_, rfl⟩, fun a' u K0 R hS hr ho h => wp_loadp structEl (.tmp 13) rfl (hr 2 _ 13 _ rfl rfl rfl ⟨⟨2, .data⟩, by simp, rfl, rfl⟩) (pt_x (hS.s (g1, 29, (ptc X1 Y1 Z1 T1).toArray) (by simp))) (uv5_len _) (h u (Kept.refl _ _))⟩
    · refine ⟨⟨_, rfl⟩, fun a' u K0 R hS hr ho h => ?_⟩
      refine wp_callf rfl enters_mul (vs := #[el X1, el X1]) ?_ (k0.out u) h
      have h0 := hr 1 (el X1) 12 _ rfl rfl rfl ⟨⟨1, .data⟩, by simp, rfl, rfl⟩
      have h1 := hr 3 (el X1) 14 _ rfl rfl rfl ⟨⟨3, .data⟩, by simp, rfl, rfl⟩
      simp [Act.eval] at h0 h1 ⊢
      exact ⟨h0, h1⟩
    · exact ⟨⟨_, rfl⟩, fun a' u K0 R hS hr ho h => wp_fieldp (.tmp 1) rfl ((ho 1 (by decide)).trans rfl) (fa1 g1) (h u (Kept.refl _ _))⟩
    · exact ⟨⟨_, rfl⟩, fun a' u K0 R hS hr ho h => wp_loadp structEl (.tmp 16) rfl (hr 5 _ 16 _ rfl rfl rfl ⟨⟨5, .data⟩, by simp, rfl, rfl⟩) (pt_y (hS.s (g1, 29, (ptc X1 Y1 Z1 T1).toArray) (by simp))) (uv5_len _) (h u (Kept.refl _ _))⟩
    · exact ⟨⟨_, rfl⟩, fun a' u K0 R hS hr ho h => wp_fieldp (.tmp 1) rfl ((ho 1 (by decide)).trans rfl) (fa1 g1) (h u (Kept.refl _ _))⟩
    · exact ⟨⟨_, rfl⟩, fun a' u K0 R hS hr ho h => wp_loadp structEl (.tmp 18) rfl (hr 7 _ 18 _ rfl rfl rfl ⟨⟨7, .data⟩, by simp, rfl, rfl⟩) (pt_y (hS.s (g1, 29, (ptc X1 Y1 Z1 T1).toArray) (by simp))) (uv5_len _) (h u (Kept.refl _ _))⟩
    · refine ⟨⟨_, rfl⟩, fun a' u K0 R hS hr ho h => ?_⟩
      refine wp_callf rfl enters_mul (vs := #[el Y1, el Y1]) ?_ (k1.out u) h
      have h0 := hr 6 (el Y1) 17 _ rfl rfl rfl ⟨⟨6, .data⟩, by simp, rfl, rfl⟩
      have h1 := hr 8 (el Y1) 19 _ rfl rfl rfl ⟨⟨8, .data⟩, by simp, rfl, rfl⟩
      simp [Act.eval] at h0 h1 ⊢
      exact ⟨h0, h1⟩
    · exact ⟨⟨_, rfl⟩, fun a' u K0 R hS hr ho h => wp_fieldp (.tmp 1) rfl ((ho 1 (by decide)).trans rfl) (fa2 g1) (h u (Kept.refl _ _))⟩
    · exact ⟨⟨_, rfl⟩, fun a' u K0 R hS hr ho h => wp_loadp structEl (.tmp 21) rfl (hr 10 _ 21 _ rfl rfl rfl ⟨⟨10, .data⟩, by simp, rfl, rfl⟩) (pt_z (hS.s (g1, 29, (ptc X1 Y1 Z1 T1).toArray) (by simp))) (uv5_len _) (h u (Kept.refl _ _))⟩
    · exact ⟨⟨_, rfl⟩, fun a' u K0 R hS hr ho h => wp_fieldp (.tmp 1) rfl ((ho 1 (by decide)).trans rfl) (fa2 g1) (h u (Kept.refl _ _))⟩
    · exact ⟨⟨_, rfl⟩, fun a' u K0 R hS hr ho h => wp_loadp structEl (.tmp 23) rfl (hr 12 _ 23 _ rfl rfl rfl ⟨⟨12, .data⟩, by simp, rfl, rfl⟩) (pt_z (hS.s (g1, 29, (ptc X1 Y1 Z1 T1).toArray) (by simp))) (uv5_len _) (h u (Kept.refl _ _))⟩
    · refine ⟨⟨_, rfl⟩, fun a' u K0 R hS hr ho h => ?_⟩
      refine wp_callf rfl enters_mul (vs := #[el Z1, el Z1]) ?_ (k2.out u) h
      have h0 := hr 11 (el Z1) 22 _ rfl rfl rfl ⟨⟨11, .data⟩, by simp, rfl, rfl⟩
      have h1 := hr 13 (el Z1) 24 _ rfl rfl rfl ⟨⟨13, .data⟩, by simp, rfl, rfl⟩
      simp [Act.eval] at h0 h1 ⊢
      exact ⟨h0, h1⟩
    · exact ⟨rfl, ⟨⟨15, .data⟩, by simp, rfl, rfl⟩, ⟨⟨4, .data⟩, by simp, rfl, rfl⟩, _, _, _, _, _, _, _, _, rfl, rfl, rfl, rfl, rfl, rfl, rfl, structEl, rfl, rfl, one_el _⟩
    · exact ⟨rfl, ⟨⟨16, .data⟩, by simp, rfl, rfl⟩, ⟨⟨9, .data⟩, by simp, rfl, rfl⟩, _, _, _, _, _, _, _, _, rfl, rfl, rfl, rfl, rfl, rfl, rfl, structEl, rfl, rfl, one_el _⟩
    · exact ⟨rfl, ⟨⟨17, .data⟩, by simp, rfl, rfl⟩, ⟨⟨14, .data⟩, by simp, rfl, rfl⟩, _, _, _, _, _, _, _, _, rfl, rfl, rfl, rfl, rfl, rfl, rfl, structEl, rfl, rfl, one_el _⟩
  · intro γ w11 hS hγ hne hput
    have b3 := hput 18 15 4 _ _ _ rfl rfl
    have b4 := hput 19 16 9 _ _ _ rfl rfl
    have b5 := hput 20 17 14 _ _ _ rfl rfl
    have hf3 := hγ 15 _ _ rfl
    have hf4 := hγ 16 _ _ rfl
    have hf5 := hγ 17 _ _ rfl
    generalize e3 : γ 15 = g3 at *
    generalize e4 : γ 16 = g4 at *
    generalize e5 : γ 17 = g5 at *
    simp [actOf, VK, List.range, List.range.loop, Act.put, e3, e4, e5]
    replace t := Lib.hid (show Pm w [(g5, 27, (uv (fam 5 (mlF Z1 Z1))).toArray), (g4, 27, (uv (fam 5 (mlF Y1 Y1))).toArray), (g3, 27, (uv (fam 5 (mlF X1 X1))).toArray), (g2, 29, (ptc nought nought nought nought).toArray), (g1, 29, (ptc X1 Y1 Z1 T1).toArray)] w11 from (((hS).cons b3).cons b4).cons b5)
    clear b3 b4 b5 hput hne hγ hS e3 e4 e5 hf3 hf4 hf5

    go_wp2_with (first
      | (with_reducible refine wpl_load_row (o := ⟨some 26, _, _, _, _, _⟩) structEl rfl (.tmp 3) rfl rfl (t.out.s (g3, 27, (uv (fam 5 (mlF X1 X1))).toArray) (by simp)) rfl ?_)
      | (with_reducible refine wpl_load_row (o := ⟨some 27, _, _, _, _, _⟩) structEl rfl (.tmp 4) rfl rfl (t.out.s (g4, 27, (uv (fam 5 (mlF Y1 Y1))).toArray) (by simp)) rfl ?_)
      | (go_at_call 38; (with_reducible refine (k3.out _).mono ?_); rintro e y1 ⟨rfl, kk⟩; replace t := Lib.hid (t.out.kept kk); clear kk)
      | ((with_reducible refine wpl_new (o := ⟨some 6, _, _, _, _, _⟩) rfl rfl zeroEl ?_); intro g6 x6 m6)
      | ((with_reducible refine wpl_store_row (o := ⟨none, .store 27 (.tmp 6) (.tmp 28), _, _, _, _⟩) structEl rfl (.tmp 6) (.tmp 28) rfl rfl rfl m6.blk rfl rfl (one_el _) ?_); intro v6 b6 k6; replace t := Lib.hid (t.out.put m6 b6 k6); clear m6 b6 k6)
      | (with_reducible refine wpl_loadp (o := ⟨some 30, _, _, _, _, _⟩) structEl rfl (.tmp 29) rfl rfl (pt_x (t.out.s (g1, 29, (ptc X1 Y1 Z1 T1).toArray) (by simp))) (uv5_len _) ?_)
      | (with_reducible refine wpl_loadp (o := ⟨some 32, _, _, _, _, _⟩) structEl rfl (.tmp 31) rfl rfl (pt_y (t.out.s (g1, 29, (ptc X1 Y1 Z1 T1).toArray) (by simp))) (uv5_len _) ?_)
      | (go_at_call 38; (with_reducible refine (k4.out _).mono ?_); rintro e y1 ⟨rfl, kk⟩; replace t := Lib.hid (t.out.kept kk); clear kk)
      | ((with_reducible refine wpl_new (o := ⟨some 7, _, _, _, _, _⟩) rfl rfl zeroEl ?_); intro g7 x7 m7)
      | ((with_reducible refine wpl_store_row (o := ⟨none, .store 27 (.tmp 7) (.tmp 33), _, _, _, _⟩) structEl rfl (.tmp 7) (.tmp 33) rfl rfl rfl m7.blk rfl rfl (one_el _) ?_); intro v7 b7 k7; replace t := Lib.hid (t.out.put m7 b7 k7); clear m7 b7 k7))

    refine wp_multi (by kernel_rfl) [.val (el (adF (mlF X1 X1) (mlF Y1 Y1))), .val (el (adF X1 Y1)), .val (el (adF X1 Y1)), .val (el (mlF (adF X1 Y1) (adF X1 Y1))), .val (el (suF (adF (mlF X1 X1) (mlF Y1 Y1)) (mlF (adF X1 Y1) (adF X1 Y1)))), .val (el (mlF X1 X1)), .val (el (mlF Y1 Y1)), .val (el (suF (mlF X1 X1) (mlF Y1 Y1))), .new 27 (el nought), .new 27 (el nought), .put 8 4 (uv (fam 5 (suF (adF (mlF X1 X1) (mlF Y1 Y1)) (mlF (adF X1 Y1) (adF X1 Y1))))).toArray, .put 9 7 (uv (fam 5 (suF (mlF X1 X1) (mlF Y1 Y1)))).toArray]
      (Pm w [(g7, 27, (uv (fam 5 (adF X1 Y1))).toArray), (g6, 27, (uv (fam 5 (adF (mlF X1 X1) (mlF Y1 Y1)))).toArray), (g5, 27, (uv (fam 5 (mlF Z1 Z1))).toArray), (g4, 27, (uv (fam 5 (mlF Y1 Y1))).toArray), (g3, 27, (uv (fam 5 (mlF X1 X1))).toArray), (g2, 29, (ptc nought nought nought nought).toArray), (g1, 29, (ptc X1 Y1 Z1 T1).toArray)]) (by kernel_rfl) (by kernel_rfl) t.out.drew (fun u u' T hS hk hT => t.out.fresh u u' T hS hk hT) ?_ ?_
    · refine ⟨?_, ?_, ?_, ?_, ?_, ?_, ?_, ?_, ⟨⟨_, rfl⟩, rfl, zeroEl⟩, ⟨⟨_, rfl⟩, rfl, zeroEl⟩, ?_, ?_, trivial⟩
      · exact ⟨⟨_, rfl⟩, fun a' u K0 R hS hr ho h => wp_loadr structEl (.tmp 6) rfl ((ho 6 (by decide)).trans rfl) (hS.s (g6, 27, (uv (fam 5 (adF (mlF X1 X1) (mlF Y1 Y1)))).toArray) (by simp)) rfl (h u (Kept.refl _ _))⟩
      · exact ⟨⟨_, rfl⟩, fun a' u K0 R hS hr ho h => wp_loadr structEl (.tmp 7) rfl ((ho 7 (by decide)).trans rfl) (hS.s (g7, 27, (uv (fam 5 (adF X1 Y1))).toArray) (by simp)) rfl (h u (Kept.refl _ _))⟩
      · exact ⟨⟨_, rfl⟩, fun a' u K0 R hS hr ho h => wp_loadr structEl (.tmp 7) rfl ((ho 7 (by decide)).trans rfl) (hS.s (g7, 27, (uv (fam 5 (adF X1 Y1))).toArray) (by simp)) rfl (h u (Kept.refl _ _))⟩
      · refine ⟨⟨_, rfl⟩, fun a' u K0 R hS hr ho h => ?_⟩
        refine wp_callf rfl enters_mul (vs := #[el (adF X1 Y1), el (adF X1 Y1)]) ?_ (k5.out u) h
        have h0 := hr 1 (el (adF X1 Y1)) 35 _ rfl rfl rfl ⟨⟨1, .data⟩, by simp, rfl, rfl⟩
        have h1 := hr 2 (el (adF X1 Y1)) 36 _ rfl rfl rfl ⟨⟨2, .data⟩, by simp, rfl, rfl⟩
        simp [Act.eval] at h0 h1 ⊢
        exact ⟨h0, h1⟩
      · refine ⟨⟨_, rfl⟩, fun a' u K0 R hS hr ho h => ?_⟩
        refine wp_callf rfl enters_sub (vs := #[el (adF (mlF X1 X1) (mlF Y1 Y1)), el (mlF (adF X1 Y1) (adF X1 Y1))]) ?_ (k6.out u) h
        have h0 := hr 0 (el (adF (mlF X1 X1) (mlF Y1 Y1))) 34 _ rfl rfl rfl ⟨⟨0, .data⟩, by simp, rfl, rfl⟩
        have h1 := hr 3 (el (mlF (adF X1 Y1) (adF X1 Y1))) 37 _ rfl rfl rfl ⟨⟨3, .data⟩, by simp, rfl, rfl⟩
        simp [Act.eval] at h0 h1 ⊢
        exact ⟨h0, h1⟩
      · exact ⟨⟨_, rfl⟩, fun a' u K0 R hS hr ho h => wp_loadr structEl (.tmp 3) rfl ((ho 3 (by decide)).trans rfl) (hS.s (g3, 27, (uv (fam 5 (mlF X1 X1))).toArray) (by simp)) rfl (h u (Kept.refl _ _))⟩
      · exact ⟨⟨_, rfl⟩, fun a' u K0 R hS hr ho h => wp_loadr structEl (.tmp 4) rfl ((ho 4 (by decide)).trans rfl) (hS.s (g4, 27, (uv (fam 5 (mlF Y1 Y1))).toArray) (by simp)) rfl (h u (Kept.refl _ _))⟩
      · refine ⟨⟨_, rfl⟩, fun a' u K0 R hS hr ho h => ?_⟩
        refine wp_callf rfl enters_sub (vs := #[el (mlF X1 X1), el (mlF Y1 Y1)]) ?_ (k7.out u) h
        have h0 := hr 5 (el (mlF X1 X1)) 39 _ rfl rfl rfl ⟨⟨5, .data⟩, by simp, rfl, rfl⟩
        have h1 := hr 6 (el (mlF Y1 Y1)) 40 _ rfl rfl rfl ⟨⟨6, .data⟩, by simp, rfl, rfl⟩
        simp [Act.eval] at h0 h1 ⊢
        exact ⟨h0, h1⟩
      · exact ⟨rfl, ⟨⟨8, .data⟩, by simp, rfl, rfl⟩, ⟨⟨4, .data⟩, by simp, rfl, rfl⟩, _, _, _, _, _, _, _, _, rfl, rfl, rfl, rfl, rfl, rfl, rfl, structEl, rfl, rfl, one_el _⟩
      · exact ⟨rfl, ⟨⟨9, .data⟩, by simp, rfl, rfl⟩, ⟨⟨7, .data⟩, by simp, rfl, rfl⟩, _, _, _, _, _, _, _, _, rfl, rfl, rfl, rfl, rfl, rfl, rfl, structEl, rfl, rfl, one_el _⟩
    · intro γ w14 hS hγ hne hput
      have b8 := hput 10 8 4 _ _ _ rfl rfl
      have b9 := hput 11 9 7 _ _ _ rfl rfl
      have hf8 := hγ 8 _ _ rfl
      have hf9 := hγ 9 _ _ rfl
      generalize e8 : γ 8 = g8 at *
      generalize e9 : γ 9 = g9 at *
      simp [actOf, VK, List.range, List.range.loop, Act.put, e8, e9]
      replace t := Lib.hid (show Pm w [(g9, 27, (uv (fam 5 (suF (mlF X1 X1) (mlF Y1 Y1)))).toArray), (g8, 27, (uv (fam 5 (suF (adF (mlF X1 X1) (mlF Y1 Y1)) (mlF (adF X1 Y1) (adF X1 Y1))))).toArray), (g7, 27, (uv (fam 5 (adF X1 Y1))).toArray), (g6, 27, (uv (fam 5 (adF (mlF X1 X1) (mlF Y1 Y1)))).toArray), (g5, 27, (uv (fam 5 (mlF Z1 Z1))).toArray), (g4, 27, (uv (fam 5 (mlF Y1 Y1))).toArray), (g3, 27, (uv (fam 5 (mlF X1 X1))).toArray), (g2, 29, (ptc nought nought nought nought).toArray), (g1, 29, (ptc X1 Y1 Z1 T1).toArray)] w14 from ((hS).cons b8).cons b9)
      clear b8 b9 hput hne hγ hS e8 e9 hf8 hf9
      go_wp2_with fail
      refine wp_multi (by kernel_rfl) [.val (el (mlF Z1 Z1)), .val (el (mlF Z1 Z1)), .val (el (adF (mlF Z1 Z1) (mlF Z1 Z1))), .val (el (suF (mlF X1 X1) (mlF Y1 Y1))), .val (el (adF (adF (mlF Z1 Z1) (mlF Z1 Z1)) (suF (mlF X1 X1) (mlF Y1 Y1)))), .new 27 (el nought), .put 5 4 (uv (fam 5 (adF (adF (mlF Z1 Z1) (mlF Z1 Z1)) (suF (mlF X1 X1) (mlF Y1 Y1))))).toArray]
        (Pm w [(g9, 27, (uv (fam 5 (suF (mlF X1 X1) (mlF Y1 Y1)))).toArray), (g8, 27, (uv (fam 5 (suF (adF (mlF X1 X1) (mlF Y1 Y1)) (mlF (adF X1 Y1) (adF X1 Y1))))).toArray), (g7, 27, (uv (fam 5 (adF X1 Y1))).toArray), (g6, 27, (uv (fam 5 (adF (mlF X1 X1) (mlF Y1 Y1)))).toArray), (g5, 27, (uv (fam 5 (mlF Z1 Z1))).toArray), (g4, 27, (uv (fam 5 (mlF Y1 Y1))).toArray), (g3, 27, (uv (fam 5 (mlF X1 X1))).toArray), (g2, 29, (ptc nought nought nought nought).toArray), (g1, 29, (ptc X1 Y1 Z1 T1).toArray)]) (by kernel_rfl) (by kernel_rfl) t.out.drew (fun u u' T hS hk hT => t.out.fresh u u' T hS hk hT) ?_ ?_
      · refine ⟨?_, ?_, ?_, ?_, ?_, ⟨⟨_, rfl⟩, rfl, zeroEl⟩, ?_, trivial⟩
        · exact ⟨⟨_, rfl⟩, fun a' u K0 R hS hr ho h => wp_loadr structEl (.tmp 5) rfl ((ho 5 (by decide)).trans rfl) (hS.s (g5, 27, (uv (fam 5 (mlF Z1 Z1))).toArray) (by simp)) rfl (h u (Kept.refl _ _))⟩
        · exact ⟨⟨_, rfl⟩, fun a' u K0 R hS hr ho h => wp_loadr structEl (.tmp 5) rfl ((ho 5 (by decide)).trans rfl) (hS.s (g5, 27, (uv (fam 5 (mlF Z1 Z1))).toArray) (by simp)) rfl (h u (Kept.refl _ _))⟩
        · refine ⟨⟨_, rfl⟩, fun a' u K0 R hS hr ho h => ?_⟩
          refine wp_callf rfl enters_add (vs := #[el (mlF Z1 Z1), el (mlF Z1 Z1)]) ?_ (k8.out u) h
          have h0 := hr 0 (el (mlF Z1 Z1)) 42 _ rfl rfl rfl ⟨⟨0, .data⟩, by simp, rfl, rfl⟩
          have h1 := hr 1 (el (mlF Z1 Z1)) 43 _ rfl rfl rfl ⟨⟨1, .data⟩, by simp, rfl, rfl⟩
          simp [Act.eval] at h0 h1 ⊢
          exact ⟨h0, h1⟩
        · exact ⟨⟨_, rfl⟩, fun a' u K0 R hS hr ho h => wp_loadr structEl (.tmp 9) rfl ((ho 9 (by decide)).trans rfl) (hS.s (g9, 27, (uv (fam 5 (suF (mlF X1 X1) (mlF Y1 Y1)))).toArray) (by simp)) rfl (h u (Kept.refl _ _))⟩
        · refine ⟨⟨_, rfl⟩, fun a' u K0 R hS hr ho h => ?_⟩
          refine wp_callf rfl enters_add (vs := #[el (adF (mlF Z1 Z1) (mlF Z1 Z1)), el (suF (mlF X1 X1) (mlF Y1 Y1))]) ?_ (k9.out u) h
          have h0 := hr 2 (el (adF (mlF Z1 Z1) (mlF Z1 Z1))) 44 _ rfl rfl rfl ⟨⟨2, .data⟩, by simp, rfl, rfl⟩
          have h1 := hr 3 (el (suF (mlF X1 X1) (mlF Y1 Y1))) 45 _ rfl rfl rfl ⟨⟨3, .data⟩, by simp, rfl, rfl⟩
          simp [Act.eval] at h0 h1 ⊢
          exact ⟨h0, h1⟩
        · exact ⟨rfl, ⟨⟨5, .data⟩, by simp, rfl, rfl⟩, ⟨⟨4, .data⟩, by simp, rfl, rfl⟩, _, _, _, _, _, _, _, _, rfl, rfl, rfl, rfl, rfl, rfl, rfl, structEl, rfl, rfl, one_el _⟩
      · intro γ w15 hS hγ hne hput
        have b10 := hput 6 5 4 _ _ _ rfl rfl
        have hf10 := hγ 5 _ _ rfl
        generalize e10 : γ 5 = g10 at *
        simp [actOf, VK, List.range, List.range.loop, Act.put, e10]
        replace t := Lib.hid (show Pm w [(g10, 27, (uv (fam 5 (adF (adF (mlF Z1 Z1) (mlF Z1 Z1)) (suF (mlF X1 X1) (mlF Y1 Y1))))).toArray), (g9, 27, (uv (fam 5 (suF (mlF X1 X1) (mlF Y1 Y1)))).toArray), (g8, 27, (uv (fam 5 (suF (adF (mlF X1 X1) (mlF Y1 Y1)) (mlF (adF X1 Y1) (adF X1 Y1))))).toArray), (g7, 27, (uv (fam 5 (adF X1 Y1))).toArray), (g6, 27, (uv (fam 5 (adF (mlF X1 X1) (mlF Y1 Y1)))).toArray), (g5, 27, (uv (fam 5 (mlF Z1 Z1))).toArray), (g4, 27, (uv (fam 5 (mlF Y1 Y1))).toArray), (g3, 27, (uv (fam 5 (mlF X1 X1))).toArray), (g2, 29, (ptc nought nought nought nought).toArray), (g1, 29, (ptc X1 Y1 Z1 T1).toArray)] w15 from (hS).cons b10)
        clear b10 hput hne hγ hS e10 hf10
        go_wp2_with fail
        refine wp_last (by kernel_rfl) [el (suF (adF (mlF X1 X1) (mlF Y1 Y1)) (mlF (adF X1 Y1) (adF X1 Y1))), el (adF (adF (mlF Z1 Z1) (mlF Z1 Z1)) (suF (mlF X1 X1) (mlF Y1 Y1))), el (mlF (suF (adF (mlF X1 X1) (mlF Y1 Y1)) (mlF (adF X1 Y1) (adF X1 Y1))) (adF (adF (mlF Z1 Z1) (mlF Z1 Z1)) (suF (mlF X1 X1) (mlF Y1 Y1)))), el (suF (mlF X1 X1) (mlF Y1 Y1)), el (adF (mlF X1 X1) (mlF Y1 Y1)), el (mlF (suF (mlF X1 X1) (mlF Y1 Y1)) (adF (mlF X1 X1) (mlF Y1 Y1))), el (adF (adF (mlF Z1 Z1) (mlF Z1 Z1)) (suF (mlF X1 X1) (mlF Y1 Y1))), el (suF (mlF X1 X1) (mlF Y1 Y1)), el (mlF (adF (adF (mlF Z1 Z1) (mlF Z1 Z1)) (suF (mlF X1 X1) (mlF Y1 Y1))) (suF (mlF X1 X1) (mlF Y1 Y1))), el (suF (adF (mlF X1 X1) (mlF Y1 Y1)) (mlF (adF X1 Y1) (adF X1 Y1))), el (adF (mlF X1 X1) (mlF Y1 Y1)), el (mlF (suF (adF (mlF X1 X1) (mlF Y1 Y1)) (mlF (adF X1 Y1) (adF X1 Y1))) (adF (mlF X1 X1) (mlF Y1 Y1))), pv (mlF (suF (adF (mlF X1 X1) (mlF Y1 Y1)) (mlF (adF X1 Y1) (adF X1 Y1))) (adF (adF (mlF Z1 Z1) (mlF Z1 Z1)) (suF (mlF X1 X1) (mlF Y1 Y1)))) (mlF (suF (mlF X1 X1) (mlF Y1 Y1)) (adF (mlF X1 X1) (mlF Y1 Y1))) (mlF (adF (adF (mlF Z1 Z1) (mlF Z1 Z1)) (suF (mlF X1 X1) (mlF Y1 Y1))) (suF (mlF X1 X1) (mlF Y1 Y1))) (mlF (suF (adF (mlF X1 X1) (mlF Y1 Y1)) (mlF (adF X1 Y1) (adF X1 Y1))) (adF (mlF X1 X1) (mlF Y1 Y1)))]
          (Pm w [(g10, 27, (uv (fam 5 (adF (adF (mlF Z1 Z1) (mlF Z1 Z1)) (suF (mlF X1 X1) (mlF Y1 Y1))))).toArray), (g9, 27, (uv (fam 5 (suF (mlF X1 X1) (mlF Y1 Y1)))).toArray), (g8, 27, (uv (fam 5 (suF (adF (mlF X1 X1) (mlF Y1 Y1)) (mlF (adF X1 Y1) (adF X1 Y1))))).toArray), (g7, 27, (uv (fam 5 (adF X1 Y1))).toArray), (g6, 27, (uv (fam 5 (adF (mlF X1 X1) (mlF Y1 Y1)))).toArray), (g5, 27, (uv (fam 5 (mlF Z1 Z1))).toArray), (g4, 27, (uv (fam 5 (mlF Y1 Y1))).toArray), (g3, 27, (uv (fam 5 (mlF X1 X1))).toArray), (g2, 29, (ptc nought nought nought nought).toArray), (g1, 29, (ptc X1 Y1 Z1 T1).toArray)]) (by kernel_rfl) rfl rfl (by kernel_rfl) t.out.drew (fun u u' h hk => h.kept hk) ?_ ?_
        · refine ⟨?_, ?_, ?_, ?_, ?_, ?_, ?_, ?_, ?_, ?_, ?_, ?_, ?_, trivial⟩
          · exact fun a' u K0 R hS hr ho h => wp_loadr structEl (.tmp 8) rfl ((ho 8 (by decide)).trans rfl) (hS.s (g8, 27, (uv (fam 5 (suF (adF (mlF X1 X1) (mlF Y1 Y1)) (mlF (adF X1 Y1) (adF X1 Y1))))).toArray) (by simp)) rfl (h u (Kept.refl _ _))
          · exact fun a' u K0 R hS hr ho h => wp_loadr structEl (.tmp 10) rfl ((ho 10 (by decide)).trans rfl) (hS.s (g10, 27, (uv (fam 5 (adF (adF (mlF Z1 Z1) (mlF Z1 Z1)) (suF (mlF X1 X1) (mlF Y1 Y1))))).toArray) (by simp)) rfl (h u (Kept.refl _ _))
          · refine fun a' u K0 R hS hr ho h => ?_
            refine wp_callf rfl enters_mul (vs := #[el (suF (adF (mlF X1 X1) (mlF Y1 Y1)) (mlF (adF X1 Y1) (adF X1 Y1))), el (adF (adF (mlF Z1 Z1) (mlF Z1 Z1)) (suF (mlF X1 X1) (mlF Y1 Y1)))]) ?_ (k10.out u) h
            have h0 := hr 0 (el (suF (adF (mlF X1 X1) (mlF Y1 Y1)) (mlF (adF X1 Y1) (adF X1 Y1)))) 47 _ rfl rfl rfl ⟨⟨0, .data⟩, by simp, rfl, rfl⟩
            have h1 := hr 1 (el (adF (adF (mlF Z1 Z1) (mlF Z1 Z1)) (suF (mlF X1 X1) (mlF Y1 Y1)))) 48 _ rfl rfl rfl ⟨⟨1, .data⟩, by simp, rfl, rfl⟩
            simp [Act.eval] at h0 h1 ⊢
            exact ⟨h0, h1⟩
          · exact fun a' u K0 R hS hr ho h => wp_loadr structEl (.tmp 9) rfl ((ho 9 (by decide)).trans rfl) (hS.s (g9, 27, (uv (fam 5 (suF (mlF X1 X1) (mlF Y1 Y1)))).toArray) (by simp)) rfl (h u (Kept.refl _ _))
          · exact fun a' u K0 R hS hr ho h => wp_loadr structEl (.tmp 6) rfl ((ho 6 (by decide)).trans rfl) (hS.s (g6, 27, (uv (fam 5 (adF (mlF X1 X1) (mlF Y1 Y1)))).toArray) (by simp)) rfl (h u (Kept.refl _ _))
          · refine fun a' u K0 R hS hr ho h => ?_
            refine wp_callf rfl enters_mul (vs := #[el (suF (mlF X1 X1) (mlF Y1 Y1)), el (adF (mlF X1 X1) (mlF Y1 Y1))]) ?_ (k11.out u) h
            have h0 := hr 3 (el (suF (mlF X1 X1) (mlF Y1 Y1))) 50 _ rfl rfl rfl ⟨⟨3, .data⟩, by simp, rfl, rfl⟩
            have h1 := hr 4 (el (adF (mlF X1 X1) (mlF Y1 Y1))) 51 _ rfl rfl rfl ⟨⟨4, .data⟩, by simp, rfl, rfl⟩
            simp [Act.eval] at h0 h1 ⊢
            exact ⟨h0, h1⟩
          · exact fun a' u K0 R hS hr ho h => wp_loadr structEl (.tmp 10) rfl ((ho 10 (by decide)).trans rfl) (hS.s (g10, 27, (uv (fam 5 (adF (adF (mlF Z1 Z1) (mlF Z1 Z1)) (suF (mlF X1 X1) (mlF Y1 Y1))))).toArray) (by simp)) rfl (h u (Kept.refl _ _))
          · exact fun a' u K0 R hS hr ho h => wp_loadr structEl (.tmp 9) rfl ((ho 9 (by decide)).trans rfl) (hS.s (g9, 27, (uv (fam 5 (suF (mlF X1 X1) (mlF Y1 Y1)))).toArray) (by simp)) rfl (h u (Kept.refl _ _))
          · refine fun a' u K0 R hS hr ho h => ?_
            refine wp_callf rfl enters_mul (vs := #[el (adF (adF (mlF Z1 Z1) (mlF Z1 Z1)) (suF (mlF X1 X1) (mlF Y1 Y1))), el (suF (mlF X1 X1) (mlF Y1 Y1))]) ?_ (k12.out u) h
            have h0 := hr 6 (el (adF (adF (mlF Z1 Z1) (mlF Z1 Z1)) (suF (mlF X1 X1) (mlF Y1 Y1)))) 53 _ rfl rfl rfl ⟨⟨6, .data⟩, by simp, rfl, rfl⟩
            have h1 := hr 7 (el (suF (mlF X1 X1) (mlF Y1 Y1))) 54 _ rfl rfl rfl ⟨⟨7, .data⟩, by simp, rfl, rfl⟩
            simp [Act.eval] at h0 h1 ⊢
            exact ⟨h0, h1⟩
          · exact fun a' u K0 R hS hr ho h => wp_loadr structEl (.tmp 8) rfl ((ho 8 (by decide)).trans rfl) (hS.s (g8, 27, (uv (fam 5 (suF (adF (mlF X1 X1) (mlF Y1 Y1)) (mlF (adF X1 Y1) (adF X1 Y1))))).toArray) (by simp)) rfl (h u (Kept.refl _ _))
          · exact fun a' u K0 R hS hr ho h => wp_loadr structEl (.tmp 6) rfl ((ho 6 (by decide)).trans rfl) (hS.s (g6, 27, (uv (fam 5 (adF (mlF X1 X1) (mlF Y1 Y1)))).toArray) (by simp)) rfl (h u (Kept.refl _ _))
          · refine fun a' u K0 R hS hr ho h => ?_
            refine wp_callf rfl enters_mul (vs := #[el (suF (adF (mlF X1 X1) (mlF Y1 Y1)) (mlF (adF X1 Y1) (adF X1 Y1))), el (adF (mlF X1 X1) (mlF Y1 Y1))]) ?_ (k13.out u) h
            have h0 := hr 9 (el (suF (adF (mlF X1 X1) (mlF Y1 Y1)) (mlF (adF X1 Y1) (adF X1 Y1)))) 56 _ rfl rfl rfl ⟨⟨9, .data⟩, by simp, rfl, rfl⟩
            have h1 := hr 10 (el (adF (mlF X1 X1) (mlF Y1 Y1))) 57 _ rfl rfl rfl ⟨⟨10, .data⟩, by simp, rfl, rfl⟩
            simp [Act.eval] at h0 h1 ⊢
            exact ⟨h0, h1⟩
          · refine fun a' u K0 R hS hr ho h => ?_
            have h0 := hr 2 (el (mlF (suF (adF (mlF X1 X1) (mlF Y1 Y1)) (mlF (adF X1 Y1) (adF X1 Y1))) (adF (adF (mlF Z1 Z1) (mlF Z1 Z1)) (suF (mlF X1 X1) (mlF Y1 Y1))))) 49 _ rfl rfl rfl ⟨⟨2, .data⟩, by simp, rfl, rfl⟩
            have h1 := hr 5 (el (mlF (suF (mlF X1 X1) (mlF Y1 Y1)) (adF (mlF X1 X1) (mlF Y1 Y1)))) 52 _ rfl rfl rfl ⟨⟨5, .data⟩, by simp, rfl, rfl⟩
            have h2 := hr 8 (el (mlF (adF (adF (mlF Z1 Z1) (mlF Z1 Z1)) (suF (mlF X1 X1) (mlF Y1 Y1))) (suF (mlF X1 X1) (mlF Y1 Y1)))) 55 _ rfl rfl rfl ⟨⟨8, .data⟩, by simp, rfl, rfl⟩
            have h3 := hr 11 (el (mlF (suF (adF (mlF X1 X1) (mlF Y1 Y1)) (mlF (adF X1 Y1) (adF X1 Y1))) (adF (mlF X1 X1) (mlF Y1 Y1)))) 58 _ rfl rfl rfl ⟨⟨11, .data⟩, by simp, rfl, rfl⟩
            exact wp_buildp rfl h0 h1 h2 h3 (h u (Kept.refl _ _))
        intro u7 hS7
        simp [actOf, List.range, List.range.loop, Act.put]
        refine wp_storer structPt (.tmp 2) (.tmp 59) rfl rfl rfl (hS7.s (g2, 29, (ptc nought nought nought nought).toArray) (by simp)) (ptc_size _ _ _ _) (ptc_size _ _ _ _) (one_pt _ _ _ _) ?_
        simp [Act.put]
        have b7 := (hS7.s (g2, 29, (ptc nought nought nought nought).toArray) (by simp)).setRow_ (ptc (mlF (suF (adF (mlF X1 X1) (mlF Y1 Y1)) (mlF (adF X1 Y1) (adF X1 Y1))) (adF (adF (mlF Z1 Z1) (mlF Z1 Z1)) (suF (mlF X1 X1) (mlF Y1 Y1)))) (mlF (suF (mlF X1 X1) (mlF Y1 Y1)) (adF (mlF X1 X1) (mlF Y1 Y1))) (mlF (adF (adF (mlF Z1 Z1) (mlF Z1 Z1)) (suF (mlF X1 X1) (mlF Y1 Y1))) (suF (mlF X1 X1) (mlF Y1 Y1))) (mlF (suF (adF (mlF X1 X1) (mlF Y1 Y1)) (mlF (adF X1 Y1) (adF X1 Y1))) (adF (mlF X1 X1) (mlF Y1 Y1)))).toArray
        have kk7 : Kept [g2] u7 (u7.setRow g2 (ptc (mlF (suF (adF (mlF X1 X1) (mlF Y1 Y1)) (mlF (adF X1 Y1) (adF X1 Y1))) (adF (adF (mlF Z1 Z1) (mlF Z1 Z1)) (suF (mlF X1 X1) (mlF Y1 Y1)))) (mlF (suF (mlF X1 X1) (mlF Y1 Y1)) (adF (mlF X1 X1) (mlF Y1 Y1))) (mlF (adF (adF (mlF Z1 Z1) (mlF Z1 Z1)) (suF (mlF X1 X1) (mlF Y1 Y1))) (suF (mlF X1 X1) (mlF Y1 Y1))) (mlF (suF (adF (mlF X1 X1) (mlF Y1 Y1)) (mlF (adF X1 Y1) (adF X1 Y1))) (adF (mlF X1 X1) (mlF Y1 Y1)))).toArray) := (Kept.refl [g2] u7).setRow (.inl (by simp)) _
        have k7 := hS7.k.then1 kk7 hl2.out
        clear kk7 hS7
        go_wp2_with fail
        exact ret_row structPt rfl rfl b7 (ptc_size _ _ _ _) rfl ⟨rfl, k7⟩
end Go.Proofs.Ytkflljjcgihaoaa

namespace Go.Proofs.Ytkflljjcgihaoaa
open Go.RowKit Go.Mem Go.Txt

/-- A point's limbs. -/
structure P4 where
  x : Nat → Nat
  y : Nat → Nat
  z : Nat → Nat
  t : Nat → Nat
def P4.c (p : P4) : List Value := ptc p.x p.y p.z p.t
abbrev P4.v (p : P4) : Value := .agg p.c.toArray
structure P4.Ok (p : P4) : Prop where
  x : Lim p.x
  y : Lim p.y
  z : Lim p.z
  t : Lim p.t
theorem P4.one (p : P4) : p.c.toArray.all (·.oneCell') = true := one_pt _ _ _ _
theorem P4.size (p : P4) : p.c.toArray.size = 20 := ptc_size _ _ _ _
def pz : P4 := ⟨nought, nought, nought, nought⟩
theorem pz_ok : pz.Ok := ⟨lim_nought, lim_nought, lim_nought, lim_nought⟩
theorem zeroP4 : (Try.prog.info? 29).map (·.zero) = some (some pz.v) := zeroPt
theorem built_z4 : Try.prog.built 29 [] = some pz.c.toArray := built_zpt
def afQ (X Y : Nat → Nat) : P4 := ⟨X, Y, smL 1, mlF X Y⟩
theorem smL_lim (v : Nat) (h : v < 18446744073709551616) : Lim (smL v) := (Rep.small v h).lim
theorem afQ_ok {X Y : Nat → Nat} (hX : Lim X) (hY : Lim Y) : (afQ X Y).Ok := ⟨hX, hY, smL_lim 1 (by omega), mlF_lim hX hY⟩
def P4.n (p : P4) : List Nat := fam 5 p.x ++ (fam 5 p.y ++ (fam 5 p.z ++ fam 5 p.t))
theorem lits_n (p q : P4) : lits p.x p.y p.z p.t = lits q.x q.y q.z q.t ↔ p.n = q.n := by
  have e : ∀ p : P4, lits p.x p.y p.z p.t = p.n.map fun (n : Nat) => Lit.int .u64 (n : Int) := fun p => by simp [lits, li, P4.n]
  rw [e, e]
  refine ⟨fun h => ?_, fun h => by rw [h]⟩
  exact (List.map_inj_right (fun a b hab => by simp only [Lit.int.injEq, true_and] at hab; omega)).1 h
def P4.same (p q : P4) : Bool := decide (p.n = q.n)
/-- Are all limbs nought? -/
def P4.none (p : P4) : Bool := p.same pz
def rtQ (p : P4) : P4 := if p.none then afQ (smL 0) (smL 1) else p
theorem rtQ_ok {p : P4} (h : p.Ok) : (rtQ p).Ok := by
  unfold rtQ
  split
  · exact afQ_ok (smL_lim 0 (by omega)) (smL_lim 1 (by omega))
  · exact h
def plQ (p q : P4) (K : Nat → Nat) : P4 :=
  let a := mlF (suF p.y p.x) (suF q.y q.x)
  let b := mlF (adF p.y p.x) (adF q.y q.x)
  let c := mlF (mlF p.t K) q.t
  let d := adF (mlF p.z q.z) (mlF p.z q.z)
  ⟨mlF (suF b a) (suF d c), mlF (adF d c) (adF b a), mlF (suF d c) (adF d c), mlF (suF b a) (adF b a)⟩
theorem plQ_ok {p q : P4} {K : Nat → Nat} (hp : p.Ok) (hq : q.Ok) (hK : Lim K) : (plQ p q K).Ok := by
  have a := mlF_lim (suF_lim hp.y hp.x) (suF_lim hq.y hq.x)
  have b := mlF_lim (adF_lim hp.y hp.x) (adF_lim hq.y hq.x)
  have c := mlF_lim (mlF_lim hp.t hK) hq.t
  have d := adF_lim (mlF_lim hp.z hq.z) (mlF_lim hp.z hq.z)
  exact ⟨mlF_lim (suF_lim b a) (suF_lim d c), mlF_lim (adF_lim d c) (adF_lim b a), mlF_lim (suF_lim d c) (adF_lim d c), mlF_lim (suF_lim b a) (adF_lim b a)⟩
def dbQ (p : P4) : P4 :=
  let a := mlF p.x p.x
  let b := mlF p.y p.y
  let c := mlF p.z p.z
  let h := adF a b
  let s := adF p.x p.y
  let e := suF h (mlF s s)
  let g := suF a b
  let f := adF (adF c c) g
  ⟨mlF e f, mlF g h, mlF f g, mlF e h⟩
theorem dbQ_ok {p : P4} (hp : p.Ok) : (dbQ p).Ok := by
  have a := mlF_lim hp.x hp.x
  have b := mlF_lim hp.y hp.y
  have c := mlF_lim hp.z hp.z
  have h := adF_lim a b
  have s := adF_lim hp.x hp.y
  have e := suF_lim h (mlF_lim s s)
  have g := suF_lim a b
  have f := adF_lim (adF_lim c c) g
  exact ⟨mlF_lim e f, mlF_lim g h, mlF_lim f g, mlF_lim e h⟩
abbrev PlcC (p q : P4) (K : Nat → Nat) (r : P4) : Prop := ∀ W, Calls Try.prog 58 #[p.v, q.v, el K] W fun e w' => e = .returned r.v ∧ Kept [] W w'
abbrev P1C (f : FuncId) (p r : P4) : Prop := ∀ W, Calls Try.prog f #[p.v] W fun e w' => e = .returned r.v ∧ Kept [] W w'
theorem cplus_c {p q : P4} {K : Nat → Nat} (hp : p.Ok) (hq : q.Ok) (hK : Lim K) : PlcC p q K (plQ p q K) := fun W => cplus_any p.x p.y p.z p.t q.x q.y q.z q.t K hp.x hp.y hp.z hp.t hq.x hq.y hq.z hq.t hK W
theorem dbl_c {p : P4} (hp : p.Ok) : P1C 57 p (dbQ p) := fun W => doubled_any p.x p.y p.z p.t hp.x hp.y hp.z W
theorem enters_right (xs : Array Value) (w : World) : (callFunc 50 xs).run Try.prog w = .ok (.enter 50 xs) w := enters_of (c := _) Try.func50 (by kernel_rfl) rfl xs w
theorem enters_plus (xs : Array Value) (w : World) : (callFunc 58 xs).run Try.prog w = .ok (.enter 58 xs) w := enters_of (c := _) Try.func58 (by kernel_rfl) rfl xs w
theorem enters_dees (xs : Array Value) (w : World) : (callFunc 55 xs).run Try.prog w = .ok (.enter 55 xs) w := enters_of (c := _) Try.func55 (by kernel_rfl) rfl xs w
theorem enters_dee (xs : Array Value) (w : World) : (callFunc 37 xs).run Try.prog w = .ok (.enter 37 xs) w := enters_of (c := _) Try.func37 (by kernel_rfl) rfl xs w
theorem enters_elt (xs : Array Value) (w : World) : (callFunc 53 xs).run Try.prog w = .ok (.enter 53 xs) w := enters_of (c := _) Try.func53 (by kernel_rfl) rfl xs w
theorem enters_aff (xs : Array Value) (w : World) : (callFunc 40 xs).run Try.prog w = .ok (.enter 40 xs) w := enters_of (c := _) Try.func40 (by kernel_rfl) rfl xs w

theorem same_iff {p q : P4} (h : p.Ok) (h2 : q.Ok) (W : World) : (Op.equalIn 10000 29 p.v q.v).run Try.prog W = .ok (p.same q) W := by
  obtain ⟨r, hr, hiff⟩ := eq_pt h.x h.y h.z h.t h2.x h2.y h2.z h2.t W
  have hiff2 := hiff.trans (lits_n p q)
  have e : r = p.same q := by
    unfold P4.same
    cases r with
    | true => exact (decide_eq_true (hiff2.1 rfl)).symm
    | false => exact (decide_eq_false fun hz => absurd (hiff2.2 hz) (by simp)).symm
  rw [← e]
  exact hr
theorem none_iff {p : P4} (h : p.Ok) (W : World) : (Op.equalIn 10000 29 p.v pz.v).run Try.prog W = .ok p.none W := same_iff h pz_ok W

theorem smallc (v : Nat) (h : v < 18446744073709551616) : SmC v (smL v) := fun W => small_any v W h

set_option maxRecDepth 100000 in
set_option maxHeartbeats 1600000 in
theorem right_w (C O Z1 : Array Value) (b : Bool) (h1 : C.size = 20) (h2 : O.size = 20) (h3 : Z1.size = 20) (h4 : C.all (·.oneCell') = true) (h5 : Z1.all (·.oneCell') = true) (u0 : Try.prog.built 29 [] = some O) (z : (Try.prog.info? 29).map (·.zero) = some (some (.agg O)))
    (q : ∀ W, (Op.equalIn 10000 29 (.agg C) (.agg O)).run Try.prog W = .ok b W) (ca : ∀ W, Calls Try.prog 40 #[el (smL 0), el (smL 1)] W fun e w' => e = .returned (.agg Z1) ∧ Kept [] W w') (w : World) :
    Calls Try.prog 50 #[.agg C] w fun e w' => e = .returned (.agg (if b then Z1 else C)) ∧ Kept [] w w' := by
  replace h1 := Lib.hid h1
  replace h2 := Lib.hid h2
  replace h3 := Lib.hid h3
  replace h4 := Lib.hid h4
  replace h5 := Lib.hid h5
  replace u0 := Lib.hid u0
  replace z := Lib.hid z
  replace ca := Lib.hid ca
  have c0 := Lib.hid small0
  have c1 := Lib.hid small1
  cases b with
  | false =>
    go_enter Try.func50, Try.ntmps50
    go_wp2_with (first
      | ((with_reducible refine wpl_box (o := ⟨some 1, _, _, _, _, _⟩) (v := .agg C) rfl (.tmp 0) rfl rfl ?_); intro g1 w1 m1; have B1 := Lib.hid (show Blk w1 g1 29 C from m1.blk))
      | ((with_reducible refine wpl_new (o := ⟨some 2, _, _, _, _, _⟩) rfl rfl z.out ?_); intro g2 w2 m2; have B2 := Lib.hid (show Blk w2 g2 29 O from m2.blk))
      | (with_reducible refine wpl_load_row (o := ⟨some 3, _, _, _, _, _⟩) structPt rfl (.tmp 1) rfl rfl (B1.out.kept m2.kept (by simp)) h1.out ?_)
      | (with_reducible refine wpl_build0 (o := ⟨some 4, _, _, _, _, _⟩) rfl rfl u0.out ?_)
      | (with_reducible refine wpl_load_row (o := ⟨some 9, _, _, _, _, _⟩) structPt rfl (.tmp 1) rfl rfl (B1.out.kept m2.kept (by simp)) h1.out ?_)
      | ((with_reducible refine wpl_store_row (o := ⟨none, .store 29 (.tmp 2) (.tmp 9), _, _, _, _⟩) structPt rfl (.tmp 2) (.tmp 9) rfl rfl rfl B2.out h2.out h1.out h4.out ?_); intro v2 b2 k2))
    exact ret_row structPt rfl rfl b2 h1.out rfl ⟨rfl, (m1.kept.then0 m2.kept).then1 k2 (Nat.le_trans m1.kept.size m2.le)⟩
  | true =>
    go_enter Try.func50, Try.ntmps50
    go_wp2_with (first
      | ((with_reducible refine wpl_box (o := ⟨some 1, _, _, _, _, _⟩) (v := .agg C) rfl (.tmp 0) rfl rfl ?_); intro g1 w1 m1; have B1 := Lib.hid (show Blk w1 g1 29 C from m1.blk))
      | ((with_reducible refine wpl_new (o := ⟨some 2, _, _, _, _, _⟩) rfl rfl z.out ?_); intro g2 w2 m2; have B2 := Lib.hid (show Blk w2 g2 29 O from m2.blk))
      | (with_reducible refine wpl_load_row (o := ⟨some 3, _, _, _, _, _⟩) structPt rfl (.tmp 1) rfl rfl (B1.out.kept m2.kept (by simp)) h1.out ?_)
      | (with_reducible refine wpl_build0 (o := ⟨some 4, _, _, _, _, _⟩) rfl rfl u0.out ?_)
      | (go_at_call 34; (with_reducible refine (c0.out _).mono ?_); rintro e y1 ⟨rfl, kk1⟩; have B3 := Lib.hid (B2.out.kept kk1 (by simp)))
      | (go_at_call 34; (with_reducible refine (c1.out _).mono ?_); rintro e y2 ⟨rfl, kk2⟩; have B4 := Lib.hid (B3.out.kept kk2 (by simp)))
      | (go_at_call 40; (with_reducible refine (ca.out _).mono ?_); rintro e y3 ⟨rfl, kk3⟩; have B5 := Lib.hid (B4.out.kept kk3 (by simp)))
      | ((with_reducible refine wpl_store_row (o := ⟨none, .store 29 (.tmp 2) (.tmp 8), _, _, _, _⟩) structPt rfl (.tmp 2) (.tmp 8) rfl rfl rfl B5.out h2.out h3.out h5.out ?_); intro v2 b2 k2))
    exact ret_row structPt rfl rfl b2 h3.out rfl ⟨rfl, ((((m1.kept.then0 m2.kept).then0 kk1).then0 kk2).then0 kk3).then1 k2 (Nat.le_trans m1.kept.size m2.le)⟩
theorem right_c {p : P4} (h : p.Ok) : P1C 50 p (rtQ p) := fun W => by
  have e := right_w p.c.toArray pz.c.toArray (afQ (smL 0) (smL 1)).c.toArray p.none p.size pz.size (P4.size _) p.one (P4.one _) built_z4 zeroP4 (none_iff h) (affine_any (smL 0) (smL 1) (smL_lim 0 (by omega)) (smL_lim 1 (by omega))) W
  unfold rtQ
  cases hb : p.none with
  | true => rw [hb] at e; exact e
  | false => rw [hb] at e; exact e
end Go.Proofs.Ytkflljjcgihaoaa

namespace Go.Proofs.Ytkflljjcgihaoaa
open Go.RowKit Go.Mem Go.Txt

section
variable {P : Program} {w : World} {ops : Array Oper} {rest : List Oper} {o : Oper} {a : Act} {Q : Exit → Act → World → Prop} {t : TypeId}
theorem wpl_builds (hgd : Region.wanted o (yielded ops a.tmps) = true) (parts : Array (Nat × Operand)) (ho : o.op = .build t parts) {L : List (Nat × Value)} (he : (parts.map fun (p : Nat × Operand) => (p.1, a.eval p.2)).toList = L) {cs : Array Value} (hb : P.built t L = some cs) (h : wpList P ops Q rest (a.put o.dst (.agg cs)) w) : wpList P ops Q (o :: rest) a w := by
  refine wpl_wanted hgd fun _ hK => wp_build t parts ho (by rw [he, hb]; rfl) (hK _ _ ?_)
  rw [he, hb]
  exact h
end
/-- Bytes as the parts of a literal. -/
def parts (bs : List UInt8) : List (Nat × Value) := bs.mapIdx fun i b => (i, .int .u8 (b.toNat : Int))
abbrev ElC (bs : List UInt8) : Prop := ∀ W, Calls Try.prog 53 #[ab bs] W fun e w' => e = .returned (el (newF bs)) ∧ Kept [] W w'

set_option maxRecDepth 100000 in
set_option maxHeartbeats 1600000 in
theorem element_any (bs : List UInt8) (hl : bs.length = 32) : ElC bs := by
  intro w
  have hbl := Lib.hid (show (bv bs).length = 32 by simp [hl])
  have cn := Lib.hid (new_any bs hl)
  clear hl
  generalize newF bs = F at *
  generalize newB bs = ok at *
  go_enter Try.func53, Try.ntmps53
  go_wp2_with (first
    | ((with_reducible refine wpl_box (o := ⟨some 1, _, _, _, _, _⟩) (v := ab bs) rfl (.tmp 0) rfl rfl ?_); intro g1 w1 m1)
    | ((with_reducible refine wpl_new (o := ⟨some 2, _, _, _, _, _⟩) rfl rfl zeroEl ?_); intro g2 w2 m2; have B1 := Lib.hid (m1.blk.kept m2.kept (by simp)))
    | (refine wpl_load_arr arrB rfl (.tmp 1) rfl rfl B1.out hbl.out ?_)
    | (go_at_call 32; (with_reducible refine (cn.out _).mono ?_); rintro e y ⟨rfl, kk⟩; have B2 := Lib.hid (m2.blk.kept kk (by simp)))
    | ((with_reducible refine wpl_new (o := ⟨some 3, _, _, _, _, _⟩) rfl rfl zeroEl ?_); intro g3 w3 m3; have B3 := Lib.hid (B2.out.kept m3.kept (by simp)))
    | ((with_reducible refine wpl_store_row (o := ⟨none, .store 27 (.tmp 3) (.tmp 8), _, _, _, _⟩) structEl rfl (.tmp 3) (.tmp 8) rfl rfl rfl m3.blk rfl rfl (one_el _) ?_); intro v4 b4 k4; have B4 := Lib.hid (B3.out.kept k4 (by simpa using fun e => m3.ne B2.out.lt e)))
    | (with_reducible refine wpl_load_row (o := ⟨some 10, _, _, _, _, _⟩) structEl rfl (.tmp 3) rfl rfl b4 rfl ?_)
    | ((with_reducible refine wpl_store_row (o := ⟨none, .store 27 (.tmp 2) (.tmp 10), _, _, _, _⟩) structEl rfl (.tmp 2) (.tmp 10) rfl rfl rfl B4.out rfl rfl (one_el _) ?_); intro v5 b5 k5))
  have K2 := m1.kept.then0 m2.kept
  have K3 := (K2.then0 kk).then0 m3.kept
  exact ret_row structEl rfl rfl b5 rfl rfl ⟨rfl, (K3.then1 k4 (Nat.le_trans (K2.then0 kk).size m3.le)).then1 k5 (Nat.le_trans m1.kept.size m2.le)⟩

def deeB : List UInt8 := [163, 120, 89, 19, 202, 77, 235, 117, 171, 216, 65, 65, 77, 10, 112, 0, 152, 232, 121, 119, 121, 64, 199, 140, 115, 254, 111, 43, 238, 108, 3, 82]
def deesB : List UInt8 := [89, 241, 178, 38, 148, 155, 214, 235, 86, 177, 131, 130, 154, 20, 224, 0, 48, 209, 243, 238, 242, 128, 142, 25, 231, 252, 223, 86, 220, 217, 6, 36]
def bxB : List UInt8 := [26, 213, 37, 143, 96, 45, 86, 201, 178, 167, 37, 149, 96, 199, 44, 105, 92, 220, 214, 253, 49, 226, 164, 192, 254, 83, 110, 205, 211, 54, 105, 33]
def byB : List UInt8 := [88, 102, 102, 102, 102, 102, 102, 102, 102, 102, 102, 102, 102, 102, 102, 102, 102, 102, 102, 102, 102, 102, 102, 102, 102, 102, 102, 102, 102, 102, 102, 102]
theorem built_dee : Try.prog.built 22 (parts deeB) = some (bv deeB).toArray := by kernel_rfl
theorem built_dees : Try.prog.built 22 (parts deesB) = some (bv deesB).toArray := by kernel_rfl
theorem built_bx : Try.prog.built 22 (parts bxB) = some (bv bxB).toArray := by kernel_rfl
theorem built_by : Try.prog.built 22 (parts byB) = some (bv byB).toArray := by kernel_rfl
def kD : Nat → Nat := newF deeB
def kK : Nat → Nat := newF deesB
def baQ : P4 := afQ (newF bxB) (newF byB)
theorem kD_lim : Lim kD := newF_lim _
theorem kK_lim : Lim kK := newF_lim _
theorem baQ_ok : baQ.Ok := afQ_ok (newF_lim _) (newF_lim _)

set_option maxRecDepth 100000 in
set_option maxHeartbeats 1600000 in
theorem dee_any (w : World) : Calls Try.prog 37 #[] w fun e w' => e = .returned (el kD) ∧ Kept [] w w' := by
  have ce := Lib.hid (show ∀ W, Calls Try.prog 53 #[.agg (bv deeB).toArray] W fun e w' => e = .returned (el kD) ∧ Kept [] W w' from element_any deeB rfl)
  have bu := Lib.hid built_dee
  generalize hb : (bv deeB).toArray = B at *
  clear hb
  generalize hP : parts deeB = PL at *
  go_enter Try.func37, Try.ntmps37
  go_wp2_with (first
    | ((with_reducible refine wpl_new (o := ⟨some 0, _, _, _, _, _⟩) rfl rfl zeroEl ?_); intro g0 w0 m0)
    | (with_reducible refine wpl_builds (o := ⟨some 1, _, _, _, _, _⟩) rfl _ rfl (by rw [← hP]; kernel_rfl) bu.out ?_)
    | (go_at_call 53; (with_reducible refine (ce.out _).mono ?_); rintro e y ⟨rfl, kk⟩; have B0 := Lib.hid (m0.blk.kept kk (by simp)))
    | ((with_reducible refine wpl_store_row (o := ⟨none, .store 27 (.tmp 0) (.tmp 2), _, _, _, _⟩) structEl rfl (.tmp 0) (.tmp 2) rfl rfl rfl B0.out rfl rfl (one_el _) ?_); intro v4 b4 k4))
  exact ret_row structEl rfl rfl b4 rfl rfl ⟨rfl, (m0.kept.then0 kk).then1 k4 m0.le⟩

set_option maxRecDepth 100000 in
set_option maxHeartbeats 1600000 in
theorem dees_any (w : World) : Calls Try.prog 55 #[] w fun e w' => e = .returned (el kK) ∧ Kept [] w w' := by
  have ce := Lib.hid (show ∀ W, Calls Try.prog 53 #[.agg (bv deesB).toArray] W fun e w' => e = .returned (el kK) ∧ Kept [] W w' from element_any deesB rfl)
  have bu := Lib.hid built_dees
  generalize hb : (bv deesB).toArray = B at *
  clear hb
  generalize hP : parts deesB = PL at *
  go_enter Try.func55, Try.ntmps55
  go_wp2_with (first
    | ((with_reducible refine wpl_new (o := ⟨some 0, _, _, _, _, _⟩) rfl rfl zeroEl ?_); intro g0 w0 m0)
    | (with_reducible refine wpl_builds (o := ⟨some 1, _, _, _, _, _⟩) rfl _ rfl (by rw [← hP]; kernel_rfl) bu.out ?_)
    | (go_at_call 53; (with_reducible refine (ce.out _).mono ?_); rintro e y ⟨rfl, kk⟩; have B0 := Lib.hid (m0.blk.kept kk (by simp)))
    | ((with_reducible refine wpl_store_row (o := ⟨none, .store 27 (.tmp 0) (.tmp 2), _, _, _, _⟩) structEl rfl (.tmp 0) (.tmp 2) rfl rfl rfl B0.out rfl rfl (one_el _) ?_); intro v4 b4 k4))
  exact ret_row structEl rfl rfl b4 rfl rfl ⟨rfl, (m0.kept.then0 kk).then1 k4 m0.le⟩

set_option maxRecDepth 100000 in
set_option maxHeartbeats 1600000 in
theorem base_any (w : World) : Calls Try.prog 17 #[] w fun e w' => e = .returned baQ.v ∧ Kept [] w w' := by
  have ce := Lib.hid (show ∀ W, Calls Try.prog 53 #[.agg (bv bxB).toArray] W fun e w' => e = .returned (el (newF bxB)) ∧ Kept [] W w' from element_any bxB rfl)
  have cf := Lib.hid (show ∀ W, Calls Try.prog 53 #[.agg (bv byB).toArray] W fun e w' => e = .returned (el (newF byB)) ∧ Kept [] W w' from element_any byB rfl)
  have ca := Lib.hid (show ∀ W, Calls Try.prog 40 #[el (newF bxB), el (newF byB)] W fun e w' => e = .returned baQ.v ∧ Kept [] W w' from affine_any _ _ (newF_lim _) (newF_lim _))
  have bu := Lib.hid built_bx
  have bw := Lib.hid built_by
  generalize newF bxB = FX at *
  generalize newF byB = FY at *
  generalize hb : (bv bxB).toArray = B at *
  clear hb
  generalize hP : parts bxB = PL at *
  generalize hb2 : (bv byB).toArray = B2 at *
  clear hb2
  generalize hP2 : parts byB = PL2 at *
  generalize baQ = r at *
  go_enter Try.func17, Try.ntmps17
  go_wp2_with (first
    | ((with_reducible refine wpl_new (o := ⟨some 0, _, _, _, _, _⟩) rfl rfl zeroP4 ?_); intro g0 w0 m0)
    | (with_reducible refine wpl_builds (o := ⟨some 1, _, _, _, _, _⟩) rfl _ rfl (by rw [← hP]; kernel_rfl) bu.out ?_)
    | (with_reducible refine wpl_builds (o := ⟨some 3, _, _, _, _, _⟩) rfl _ rfl (by rw [← hP2]; kernel_rfl) bw.out ?_)
    | (go_at_call 53; (with_reducible refine (ce.out _).mono ?_); rintro e y ⟨rfl, kk⟩; have B0 := Lib.hid (m0.blk.kept kk (by simp)))
    | (go_at_call 53; (with_reducible refine (cf.out _).mono ?_); rintro e y2 ⟨rfl, kk2⟩; have B02 := Lib.hid (B0.out.kept kk2 (by simp)))
    | (go_at_call 40; (with_reducible refine (ca.out _).mono ?_); rintro e y3 ⟨rfl, kk3⟩; have B03 := Lib.hid (show Blk y3 g0 29 pz.c.toArray from B02.out.kept kk3 (by simp)))
    | ((with_reducible refine wpl_store_row (o := ⟨none, .store 29 (.tmp 0) (.tmp 5), _, _, _, _⟩) structPt rfl (.tmp 0) (.tmp 5) rfl rfl rfl B03.out pz.size r.size r.one ?_); intro v4 b4 k4))
  exact ret_row structPt rfl rfl b4 r.size rfl ⟨rfl, (((m0.kept.then0 kk).then0 kk2).then0 kk3).then1 k4 m0.le⟩

def adQ (p q : P4) : P4 := plQ (rtQ p) (rtQ q) kK
theorem adQ_ok {p q : P4} (hp : p.Ok) (hq : q.Ok) : (adQ p q).Ok := plQ_ok (rtQ_ok hp) (rtQ_ok hq) kK_lim
abbrev AddC (p q r : P4) : Prop := ∀ W, Calls Try.prog 19 #[p.v, q.v] W fun e w' => e = .returned r.v ∧ Kept [] W w'
set_option maxRecDepth 100000 in
set_option maxHeartbeats 1600000 in
theorem add_c {p q : P4} (hp : p.Ok) (hq : q.Ok) : AddC p q (adQ p q) := by
  intro w
  have c1 := Lib.hid (right_c hp)
  have c2 := Lib.hid (right_c hq)
  have c3 := Lib.hid (show ∀ W, Calls Try.prog 58 #[(rtQ p).v, (rtQ q).v, el kK] W fun e w' => e = .returned (adQ p q).v ∧ Kept [] W w' from cplus_c (rtQ_ok hp) (rtQ_ok hq) kK_lim)
  have c4 := Lib.hid dees_any
  clear hp hq
  generalize kK = K at *
  have z := Lib.hid zeroP4
  generalize rtQ p = p2 at *
  generalize rtQ q = q2 at *
  generalize adQ p q = r at *
  go_enter Try.func19, Try.ntmps19
  go_wp2_with (first
    | ((with_reducible refine wpl_box (o := ⟨some 2, _, _, _, _, _⟩) (v := p.v) rfl (.tmp 0) rfl rfl ?_); intro g2 w2 m2)
    | ((with_reducible refine wpl_box (o := ⟨some 3, _, _, _, _, _⟩) (v := q.v) rfl (.tmp 1) rfl rfl ?_); intro g3 w3 m3)
    | ((with_reducible refine wpl_new (o := ⟨some 4, _, _, _, _, _⟩) rfl rfl z.out ?_); intro g4 w4 m4))
  have t0 := ((((Pm.none w).kept m2.kept).cons m2.blk).kept m3.kept |>.cons m3.blk).kept m4.kept
  have hl4 := Lib.hid (Nat.le_trans (m2.kept.then0 m3.kept).size m4.le)
  have t := Lib.hid (show Pm w [(g4, 29, pz.c.toArray), (g3, 29, q.c.toArray), (g2, 29, p.c.toArray)] w4 from t0.cons m4.blk)
  clear m2 m3 m4 t0
  refine wp_last (by kernel_rfl) [p.v, p2.v, q.v, q2.v, el K, r.v]
    (Pm w [(g4, 29, pz.c.toArray), (g3, 29, q.c.toArray), (g2, 29, p.c.toArray)]) (by kernel_rfl) rfl rfl (by kernel_rfl) t.out.drew (fun u u' h hk => h.kept hk) ?_ ?_
  · refine ⟨?_, ?_, ?_, ?_, ?_, ?_, trivial⟩
    · exact fun a' u K0 R hS hr ho h => wp_loadr structPt (.tmp 2) rfl ((ho 2 (by decide)).trans rfl) (hS.s (g2, 29, p.c.toArray) (by simp)) p.size (h u (Kept.refl _ _))
    · refine fun a' u K0 R hS hr ho h => wp_callf rfl enters_right (vs := #[p.v]) ?_ (c1.out u) h
      have h0 := hr 0 p.v 5 _ rfl rfl rfl ⟨⟨0, .data⟩, by simp, rfl, rfl⟩
      simp [Act.eval] at h0 ⊢
      exact h0
    · exact fun a' u K0 R hS hr ho h => wp_loadr structPt (.tmp 3) rfl ((ho 3 (by decide)).trans rfl) (hS.s (g3, 29, q.c.toArray) (by simp)) q.size (h u (Kept.refl _ _))
    · refine fun a' u K0 R hS hr ho h => wp_callf rfl enters_right (vs := #[q.v]) ?_ (c2.out u) h
      have h0 := hr 2 q.v 7 _ rfl rfl rfl ⟨⟨2, .data⟩, by simp, rfl, rfl⟩
      simp [Act.eval] at h0 ⊢
      exact h0
    · exact fun a' u K0 R hS hr ho h => wp_callf rfl enters_dees (vs := #[]) (by simp) (c4.out u) h
    · refine fun a' u K0 R hS hr ho h => wp_callf rfl enters_plus (vs := #[p2.v, q2.v, el K]) ?_ (c3.out u) h
      have h0 := hr 1 p2.v 6 _ rfl rfl rfl ⟨⟨1, .data⟩, by simp, rfl, rfl⟩
      have h1 := hr 3 q2.v 8 _ rfl rfl rfl ⟨⟨3, .data⟩, by simp, rfl, rfl⟩
      have h2 := hr 4 (el K) 9 _ rfl rfl rfl ⟨⟨4, .data⟩, by simp, rfl, rfl⟩
      simp [Act.eval] at h0 h1 h2 ⊢
      exact ⟨h0, h1, h2⟩
  intro u7 hS7
  simp [actOf, List.range, List.range.loop, Act.put]
  refine wp_storer structPt (.tmp 4) (.tmp 10) rfl rfl rfl (hS7.s (g4, 29, pz.c.toArray) (by simp)) pz.size r.size r.one ?_
  simp [Act.put]
  have b7 := (hS7.s (g4, 29, pz.c.toArray) (by simp)).setRow_ r.c.toArray
  have kk7 : Kept [g4] u7 (u7.setRow g4 r.c.toArray) := (Kept.refl [g4] u7).setRow (.inl (by simp)) _
  have k7 := hS7.k.then1 kk7 hl4.out
  clear kk7 hS7
  go_wp2_with fail
  exact ret_row structPt rfl rfl b7 r.size rfl ⟨rfl, k7⟩
end Go.Proofs.Ytkflljjcgihaoaa
