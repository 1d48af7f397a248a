/-
  The curve: limbs stand for points.
  The curve: what points' bytes say; which bytes are points.
  The curve: sums, negatives, multiples stand for what they should.
  The curve: the base point, its order; the ladder.
  The curve: the ladder's points; multiples of any point.
  The curve's laws: what the program's functions answer, by the points that they are given.
  The curve's laws: contracts over lists of bytes.
-/
import Derived.Test.YtdbngnlpafcogaaEd4
namespace Go.Proofs.Ytdbngnlpafcogaa
open Go.RowKit Go.Mem Go.Txt

theorem PP_p : PP = Ed.p := rfl
/-- The number modulo p that limbs stand for. -/
def fq (F : Nat → Nat) : Ed.Fq := Ed.mk (fv F)
theorem rep_self {F : Nat → Nat} (h : Lim F) : Rep F (fv F) := ⟨h, rfl⟩
theorem fq_rep {F : Nat → Nat} {x : Nat} (h : Rep F x) : fq F = Ed.mk x := Ed.mk_eq.2 h.val
theorem fq_v (F : Nat → Nat) : (fq F).v = fv F % PP := rfl
theorem fq_ml {F G : Nat → Nat} (h : Lim F) (h2 : Lim G) : fq (mlF F G) = fq F * fq G := (fq_rep ((rep_self h).m (rep_self h2))).trans (Ed.mul_mk _ _).symm
theorem fq_ad {F G : Nat → Nat} (h : Lim F) (h2 : Lim G) : fq (adF F G) = fq F + fq G := (fq_rep ((rep_self h).ad (rep_self h2))).trans (Ed.add_mk _ _).symm
theorem fq_su {F G : Nat → Nat} (h : Lim F) (h2 : Lim G) : fq (suF F G) = fq F - fq G := by
  have e : fq (suF F G) + fq G = fq F := by
    rw [fq_rep ((rep_self h).su (rep_self h2))]
    exact (Ed.add_mk _ _).trans (Ed.mk_eq.2 (sb_add _ _))
  grind
theorem fq_sm (v : Nat) : fq (smL v) = Ed.mk v := by unfold fq; rw [small_val]
theorem fq_s0 : fq (smL 0) = 0 := fq_sm 0
theorem fq_s1 : fq (smL 1) = 1 := fq_sm 1
theorem fq_inv {F : Nat → Nat} (h : Lim F) (h0 : fq F ≠ 0) : fq F * fq (invF F) = 1 := by
  rw [fq_rep ((rep_self h).inv)]
  refine (Ed.mul_mk _ _).trans (Ed.mk_eq.2 ?_)
  have hn : fv F % PP ≠ 0 := fun e => h0 (Ed.mk_eq.2 (e.trans (Nat.zero_mod _).symm))
  exact (inv_mul hn).trans (show 1 = 1 % PP by decide +kernel)
theorem fq_new (bs : List UInt8) (h : newB bs = true) : fq (newF bs) = Ed.mk (leV bs) := by unfold fq; rw [new_val bs h]
theorem fq_kD : fq kD = Ed.D := by
  unfold kD Ed.D
  rw [fq_new _ (by decide +kernel)]
  exact Ed.mk_eq.2 (by decide +kernel)
theorem fq_kK : fq kK = Ed.D + Ed.D := by
  unfold kK Ed.D
  rw [fq_new _ (by decide +kernel)]
  exact (Ed.mk_eq.2 (by decide +kernel)).trans (Ed.add_mk _ _).symm
/-- Limbs stand for a point. -/
structure Rp (p : P4) (P : Ed.Pt) : Prop where
  ok : p.Ok
  z : fq p.z ≠ 0
  x : P.x * fq p.z = fq p.x
  y : P.y * fq p.z = fq p.y
  t : P.x * P.y * fq p.z = fq p.t
theorem one_ne0 : (1 : Ed.Fq) ≠ 0 := Ed.one_ne
theorem Rp.af {X Y : Nat → Nat} {P : Ed.Pt} (hX : Lim X) (hY : Lim Y) (h1 : P.x = fq X) (h2 : P.y = fq Y) : Rp (afQ X Y) P where
  ok := afQ_ok hX hY
  z := by show fq (smL 1) ≠ 0; rw [fq_s1]; exact one_ne0
  x := by show P.x * fq (smL 1) = fq X; rw [fq_s1, h1]; grind
  y := by show P.y * fq (smL 1) = fq Y; rw [fq_s1, h2]; grind
  t := by show P.x * P.y * fq (smL 1) = fq (mlF X Y); rw [fq_s1, fq_ml hX hY, h1, h2]; grind
theorem Rp.some {p : P4} {P : Ed.Pt} (h : Rp p P) : p.none = false := by
  unfold P4.none P4.same
  refine decide_eq_false fun e => h.z ?_
  have hl := (lits_n p pz).2 e
  have e5 : ∀ i, i < 5 → p.z i = pz.z i := fun i hi => (lits_z hl i hi).2.2.1
  unfold fq fv
  rw [e5 0 (by omega), e5 1 (by omega), e5 2 (by omega), e5 3 (by omega), e5 4 (by omega)]
  rfl
theorem Rp.rt {p : P4} {P : Ed.Pt} (h : Rp p P) : rtQ p = p := by
  unfold rtQ
  rw [h.some]; rfl
theorem zero_x : Ed.Pt.zero.x = 0 := by unfold Ed.Pt.zero; rfl
theorem zero_y : Ed.Pt.zero.y = 1 := by unfold Ed.Pt.zero; rfl
theorem rp_zero : Rp (rtQ pz) Ed.Pt.zero := by
  have e : pz.none = true := by unfold P4.none P4.same; exact decide_eq_true rfl
  unfold rtQ
  rw [e, if_pos rfl]
  exact Rp.af (smL_lim 0 (by omega)) (smL_lim 1 (by omega)) (by rw [fq_s0, zero_x]) (by rw [fq_s1, zero_y])
theorem sum_x (P Q : Ed.Pt) : (P + Q).x = Ed.sx Ed.D P.x P.y Q.x Q.y := by show (Ed.Pt.add P Q).x = _; unfold Ed.Pt.add; rfl
theorem sum_y (P Q : Ed.Pt) : (P + Q).y = Ed.sy Ed.D P.x P.y Q.x Q.y := by show (Ed.Pt.add P Q).y = _; unfold Ed.Pt.add; rfl
theorem sum_xm (P Q : Ed.Pt) : (P + Q).x * (1 + Ed.D * P.x * Q.x * P.y * Q.y) = P.x * Q.y + Q.x * P.y := by
  rw [sum_x]; unfold Ed.sx
  exact Ed.div_mul (Ed.good.plus P.on Q.on)
theorem sum_ym (P Q : Ed.Pt) : (P + Q).y * (1 - Ed.D * P.x * Q.x * P.y * Q.y) = P.y * Q.y + P.x * Q.x := by
  rw [sum_y]; unfold Ed.sy
  exact Ed.div_mul (Ed.good.minus P.on Q.on)
theorem two_ne0 : (2 : Ed.Fq) ≠ 0 := Ed.two_ne
section
variable {D x1 y1 x2 y2 u v X Y : Ed.Fq}
theorem pl_z : (u * v + u * v - x1 * y1 * u * (D + D) * (x2 * y2 * v)) * (u * v + u * v + x1 * y1 * u * (D + D) * (x2 * y2 * v)) = 2 * 2 * (u * u) * (v * v) * ((1 - D * x1 * x2 * y1 * y2) * (1 + D * x1 * x2 * y1 * y2)) := by grind
theorem pl_x (hx : X * (1 + D * x1 * x2 * y1 * y2) = x1 * y2 + x2 * y1) : X * (2 * 2 * (u * u) * (v * v) * ((1 - D * x1 * x2 * y1 * y2) * (1 + D * x1 * x2 * y1 * y2))) = ((y1 * u + x1 * u) * (y2 * v + x2 * v) - (y1 * u - x1 * u) * (y2 * v - x2 * v)) * (u * v + u * v - x1 * y1 * u * (D + D) * (x2 * y2 * v)) := by
  have e : X * (2 * 2 * (u * u) * (v * v) * ((1 - D * x1 * x2 * y1 * y2) * (1 + D * x1 * x2 * y1 * y2))) = X * (1 + D * x1 * x2 * y1 * y2) * (2 * 2 * (u * u) * (v * v) * (1 - D * x1 * x2 * y1 * y2)) := by clear hx; grind
  rw [e, hx]
  clear e hx
  grind
theorem pl_y (hy : Y * (1 - D * x1 * x2 * y1 * y2) = y1 * y2 + x1 * x2) : Y * (2 * 2 * (u * u) * (v * v) * ((1 - D * x1 * x2 * y1 * y2) * (1 + D * x1 * x2 * y1 * y2))) = (u * v + u * v + x1 * y1 * u * (D + D) * (x2 * y2 * v)) * ((y1 * u + x1 * u) * (y2 * v + x2 * v) + (y1 * u - x1 * u) * (y2 * v - x2 * v)) := by
  have e : Y * (2 * 2 * (u * u) * (v * v) * ((1 - D * x1 * x2 * y1 * y2) * (1 + D * x1 * x2 * y1 * y2))) = Y * (1 - D * x1 * x2 * y1 * y2) * (2 * 2 * (u * u) * (v * v) * (1 + D * x1 * x2 * y1 * y2)) := by clear hy; grind
  rw [e, hy]
  clear e hy
  grind
theorem pl_t (hx : X * (1 + D * x1 * x2 * y1 * y2) = x1 * y2 + x2 * y1) (hy : Y * (1 - D * x1 * x2 * y1 * y2) = y1 * y2 + x1 * x2) : X * Y * (2 * 2 * (u * u) * (v * v) * ((1 - D * x1 * x2 * y1 * y2) * (1 + D * x1 * x2 * y1 * y2))) = ((y1 * u + x1 * u) * (y2 * v + x2 * v) - (y1 * u - x1 * u) * (y2 * v - x2 * v)) * ((y1 * u + x1 * u) * (y2 * v + x2 * v) + (y1 * u - x1 * u) * (y2 * v - x2 * v)) := by
  have e : X * Y * (2 * 2 * (u * u) * (v * v) * ((1 - D * x1 * x2 * y1 * y2) * (1 + D * x1 * x2 * y1 * y2))) = X * (1 + D * x1 * x2 * y1 * y2) * (Y * (1 - D * x1 * x2 * y1 * y2)) * (2 * 2 * (u * u) * (v * v)) := by clear hx hy; grind
  rw [e, hx, hy]
  clear e hx hy
  grind
theorem db_z (hon : y1 * y1 - x1 * x1 = 1 + D * x1 * x1 * y1 * y1) : (u * u + u * u + (x1 * u * (x1 * u) - y1 * u * (y1 * u))) * (x1 * u * (x1 * u) - y1 * u * (y1 * u)) = -1 * (u * u) * (u * u) * ((1 - D * x1 * x1 * y1 * y1) * (1 + D * x1 * x1 * y1 * y1)) := by
  have e : D * x1 * x1 * y1 * y1 = y1 * y1 - x1 * x1 - 1 := by grind
  rw [e]
  clear e hon
  grind
theorem db_x (hon : y1 * y1 - x1 * x1 = 1 + D * x1 * x1 * y1 * y1) (hx : X * (1 + D * x1 * x1 * y1 * y1) = x1 * y1 + x1 * y1) : X * (-1 * (u * u) * (u * u) * ((1 - D * x1 * x1 * y1 * y1) * (1 + D * x1 * x1 * y1 * y1))) = (x1 * u * (x1 * u) + y1 * u * (y1 * u) - (x1 * u + y1 * u) * (x1 * u + y1 * u)) * (u * u + u * u + (x1 * u * (x1 * u) - y1 * u * (y1 * u))) := by
  have e : D * x1 * x1 * y1 * y1 = y1 * y1 - x1 * x1 - 1 := by clear hx; grind
  have e2 : X * (-1 * (u * u) * (u * u) * ((1 - D * x1 * x1 * y1 * y1) * (1 + D * x1 * x1 * y1 * y1))) = X * (1 + D * x1 * x1 * y1 * y1) * (-1 * (u * u) * (u * u) * (1 - D * x1 * x1 * y1 * y1)) := by clear hx e hon; grind
  rw [e2, hx, e]
  clear e e2 hx hon
  grind
theorem db_y (hon : y1 * y1 - x1 * x1 = 1 + D * x1 * x1 * y1 * y1) (hy : Y * (1 - D * x1 * x1 * y1 * y1) = y1 * y1 + x1 * x1) : Y * (-1 * (u * u) * (u * u) * ((1 - D * x1 * x1 * y1 * y1) * (1 + D * x1 * x1 * y1 * y1))) = (x1 * u * (x1 * u) - y1 * u * (y1 * u)) * (x1 * u * (x1 * u) + y1 * u * (y1 * u)) := by
  have e : D * x1 * x1 * y1 * y1 = y1 * y1 - x1 * x1 - 1 := by clear hy; grind
  have e2 : Y * (-1 * (u * u) * (u * u) * ((1 - D * x1 * x1 * y1 * y1) * (1 + D * x1 * x1 * y1 * y1))) = Y * (1 - D * x1 * x1 * y1 * y1) * (-1 * (u * u) * (u * u) * (1 + D * x1 * x1 * y1 * y1)) := by clear hy e hon; grind
  rw [e2, hy, e]
  clear e e2 hy hon
  grind
theorem db_t (hx : X * (1 + D * x1 * x1 * y1 * y1) = x1 * y1 + x1 * y1) (hy : Y * (1 - D * x1 * x1 * y1 * y1) = y1 * y1 + x1 * x1) : X * Y * (-1 * (u * u) * (u * u) * ((1 - D * x1 * x1 * y1 * y1) * (1 + D * x1 * x1 * y1 * y1))) = (x1 * u * (x1 * u) + y1 * u * (y1 * u) - (x1 * u + y1 * u) * (x1 * u + y1 * u)) * (x1 * u * (x1 * u) + y1 * u * (y1 * u)) := by
  have e : X * Y * (-1 * (u * u) * (u * u) * ((1 - D * x1 * x1 * y1 * y1) * (1 + D * x1 * x1 * y1 * y1))) = X * (1 + D * x1 * x1 * y1 * y1) * (Y * (1 - D * x1 * x1 * y1 * y1)) * (-1 * (u * u) * (u * u)) := by clear hx hy; grind
  rw [e, hx, hy]
  clear e hx hy
  grind
end
theorem Rp.pl {p q : P4} {P Q : Ed.Pt} (hp : Rp p P) (hq : Rp q Q) : Rp (plQ p q kK) (P + Q) := by
  have hx := sum_xm P Q
  have hy := sum_ym P Q
  have n1 := Ed.good.plus P.on Q.on
  have n2 := Ed.good.minus P.on Q.on
  have o1 := hp.ok
  have o2 := hq.ok
  have a := mlF_lim (suF_lim o1.y o1.x) (suF_lim o2.y o2.x)
  have b := mlF_lim (adF_lim o1.y o1.x) (adF_lim o2.y o2.x)
  have c0 := mlF_lim o1.t kK_lim
  have c := mlF_lim c0 o2.t
  have d0 := mlF_lim o1.z o2.z
  have d := adF_lim d0 d0
  have ea : fq (mlF (suF p.y p.x) (suF q.y q.x)) = (fq p.y - fq p.x) * (fq q.y - fq q.x) := by rw [fq_ml (suF_lim o1.y o1.x) (suF_lim o2.y o2.x), fq_su o1.y o1.x, fq_su o2.y o2.x]
  have eb : fq (mlF (adF p.y p.x) (adF q.y q.x)) = (fq p.y + fq p.x) * (fq q.y + fq q.x) := by rw [fq_ml (adF_lim o1.y o1.x) (adF_lim o2.y o2.x), fq_ad o1.y o1.x, fq_ad o2.y o2.x]
  have ec : fq (mlF (mlF p.t kK) q.t) = fq p.t * (Ed.D + Ed.D) * fq q.t := by rw [fq_ml c0 o2.t, fq_ml o1.t kK_lim, fq_kK]
  have ed : fq (adF (mlF p.z q.z) (mlF p.z q.z)) = fq p.z * fq q.z + fq p.z * fq q.z := by rw [fq_ad d0 d0, fq_ml o1.z o2.z]
  have ok := plQ_ok o1 o2 kK_lim
  have ex : fq (plQ p q kK).x = ((fq p.y + fq p.x) * (fq q.y + fq q.x) - (fq p.y - fq p.x) * (fq q.y - fq q.x)) * (fq p.z * fq q.z + fq p.z * fq q.z - fq p.t * (Ed.D + Ed.D) * fq q.t) := by
    rw [← ea, ← eb, ← ec, ← ed, ← fq_su b a, ← fq_su d c, ← fq_ml (suF_lim b a) (suF_lim d c)]; rfl
  have ey : fq (plQ p q kK).y = (fq p.z * fq q.z + fq p.z * fq q.z + fq p.t * (Ed.D + Ed.D) * fq q.t) * ((fq p.y + fq p.x) * (fq q.y + fq q.x) + (fq p.y - fq p.x) * (fq q.y - fq q.x)) := by
    rw [← ea, ← eb, ← ec, ← ed, ← fq_ad b a, ← fq_ad d c, ← fq_ml (adF_lim d c) (adF_lim b a)]; rfl
  have ez : fq (plQ p q kK).z = (fq p.z * fq q.z + fq p.z * fq q.z - fq p.t * (Ed.D + Ed.D) * fq q.t) * (fq p.z * fq q.z + fq p.z * fq q.z + fq p.t * (Ed.D + Ed.D) * fq q.t) := by
    rw [← ec, ← ed, ← fq_su d c, ← fq_ad d c, ← fq_ml (suF_lim d c) (adF_lim d c)]; rfl
  have et : fq (plQ p q kK).t = ((fq p.y + fq p.x) * (fq q.y + fq q.x) - (fq p.y - fq p.x) * (fq q.y - fq q.x)) * ((fq p.y + fq p.x) * (fq q.y + fq q.x) + (fq p.y - fq p.x) * (fq q.y - fq q.x)) := by
    rw [← ea, ← eb, ← fq_su b a, ← fq_ad b a, ← fq_ml (suF_lim b a) (adF_lim b a)]; rfl
  rw [← hp.x, ← hp.y, ← hq.x, ← hq.y, ← hp.t, ← hq.t] at ex
  rw [← hp.x, ← hp.y, ← hq.x, ← hq.y, ← hp.t, ← hq.t] at ey
  rw [← hp.t, ← hq.t] at ez
  rw [← hp.x, ← hp.y, ← hq.x, ← hq.y] at et
  have z1 := hp.z
  have z2 := hq.z
  clear ea eb ec ed a b c d c0 d0 o1 o2 hp hq
  generalize Ed.D = D at *
  generalize P.x = x1 at *
  generalize P.y = y1 at *
  generalize Q.x = x2 at *
  generalize Q.y = y2 at *
  generalize fq p.z = u at *
  generalize fq q.z = v at *
  have hz : fq (plQ p q kK).z = 2 * 2 * (u * u) * (v * v) * ((1 - D * x1 * x2 * y1 * y2) * (1 + D * x1 * x2 * y1 * y2)) := by rw [ez]; exact pl_z
  exact ⟨ok, by
    rw [hz]
    exact Ed.mul_ne (Ed.mul_ne (Ed.mul_ne (Ed.mul_ne two_ne0 two_ne0) (Ed.mul_ne z1 z1)) (Ed.mul_ne z2 z2)) (Ed.mul_ne n2 n1),
    by rw [hz, ex]; exact pl_x hx, by rw [hz, ey]; exact pl_y hy, by rw [hz, et]; exact pl_t hx hy⟩
theorem Rp.db {p : P4} {P : Ed.Pt} (hp : Rp p P) : Rp (dbQ p) (P + P) := by
  have hx := sum_xm P P
  have hy := sum_ym P P
  have n1 := Ed.good.plus P.on P.on
  have n2 := Ed.good.minus P.on P.on
  have hon := P.on
  have o := hp.ok
  have a := mlF_lim o.x o.x
  have b := mlF_lim o.y o.y
  have c := mlF_lim o.z o.z
  have h := adF_lim a b
  have s := adF_lim o.x o.y
  have s2 := mlF_lim s s
  have e := suF_lim h s2
  have g := suF_lim a b
  have c2 := adF_lim c c
  have f := adF_lim c2 g
  have eh : fq (adF (mlF p.x p.x) (mlF p.y p.y)) = fq p.x * fq p.x + fq p.y * fq p.y := by rw [fq_ad a b, fq_ml o.x o.x, fq_ml o.y o.y]
  have es : fq (mlF (adF p.x p.y) (adF p.x p.y)) = (fq p.x + fq p.y) * (fq p.x + fq p.y) := by rw [fq_ml s s, fq_ad o.x o.y]
  have ee : fq (suF (adF (mlF p.x p.x) (mlF p.y p.y)) (mlF (adF p.x p.y) (adF p.x p.y))) = fq p.x * fq p.x + fq p.y * fq p.y - (fq p.x + fq p.y) * (fq p.x + fq p.y) := by rw [fq_su h s2, eh, es]
  have eg : fq (suF (mlF p.x p.x) (mlF p.y p.y)) = fq p.x * fq p.x - fq p.y * fq p.y := by rw [fq_su a b, fq_ml o.x o.x, fq_ml o.y o.y]
  have ef : fq (adF (adF (mlF p.z p.z) (mlF p.z p.z)) (suF (mlF p.x p.x) (mlF p.y p.y))) = fq p.z * fq p.z + fq p.z * fq p.z + (fq p.x * fq p.x - fq p.y * fq p.y) := by rw [fq_ad c2 g, fq_ad c c, fq_ml o.z o.z, eg]
  have ok := dbQ_ok o
  have ex : fq (dbQ p).x = (fq p.x * fq p.x + fq p.y * fq p.y - (fq p.x + fq p.y) * (fq p.x + fq p.y)) * (fq p.z * fq p.z + fq p.z * fq p.z + (fq p.x * fq p.x - fq p.y * fq p.y)) := by
    rw [← ee, ← ef, ← fq_ml e f]; rfl
  have ey : fq (dbQ p).y = (fq p.x * fq p.x - fq p.y * fq p.y) * (fq p.x * fq p.x + fq p.y * fq p.y) := by
    rw [← eg, ← eh, ← fq_ml g h]; rfl
  have ez : fq (dbQ p).z = (fq p.z * fq p.z + fq p.z * fq p.z + (fq p.x * fq p.x - fq p.y * fq p.y)) * (fq p.x * fq p.x - fq p.y * fq p.y) := by
    rw [← ef, ← eg, ← fq_ml f g]; rfl
  have et : fq (dbQ p).t = (fq p.x * fq p.x + fq p.y * fq p.y - (fq p.x + fq p.y) * (fq p.x + fq p.y)) * (fq p.x * fq p.x + fq p.y * fq p.y) := by
    rw [← ee, ← eh, ← fq_ml e h]; rfl
  rw [← hp.x, ← hp.y] at ex ey ez et
  have z1 := hp.z
  unfold Ed.onC at hon
  clear ee ef eg eh es a b c h s s2 e g c2 f o hp
  generalize Ed.D = D at *
  generalize P.x = x1 at *
  generalize P.y = y1 at *
  generalize fq p.z = u at *
  have hz : fq (dbQ p).z = -1 * (u * u) * (u * u) * ((1 - D * x1 * x1 * y1 * y1) * (1 + D * x1 * x1 * y1 * y1)) := by rw [ez]; exact db_z hon
  have hm1 : (-1 : Ed.Fq) ≠ 0 := fun e => one_ne0 (by grind)
  exact ⟨ok, by
    rw [hz]
    exact Ed.mul_ne (Ed.mul_ne (Ed.mul_ne hm1 (Ed.mul_ne z1 z1)) (Ed.mul_ne z1 z1)) (Ed.mul_ne n2 n1),
    by rw [hz, ex]; exact db_x hon hx, by rw [hz, ey]; exact db_y hon hy, by rw [hz, et]; exact db_t hx hy⟩
end Go.Proofs.Ytdbngnlpafcogaa

namespace Go.Proofs.Ytdbngnlpafcogaa
open Go.RowKit Go.Mem Go.Txt

/-- A point's bytes, as a number. -/
def enc (P : Ed.Pt) : Nat := P.y.v + (if P.x.v % 2 = 1 then T255 else 0)
def T256 : Nat := 115792089237316195423570985008687907853269984665640564039457584007913129639936
theorem v_lt (a : Ed.Fq) : a.v < PP := a.lt
theorem enc_lt (P : Ed.Pt) : enc P < T256 := by
  have := v_lt P.y
  unfold enc T256 T255 PP at *
  split <;> omega
theorem encR_rp {r : P4} {P : Ed.Pt} (h : Rp r P) : encR r = enc P := by
  have hi := fq_inv h.ok.z h.z
  have li := invF_lim h.ok.z
  have hy : fq (mlF r.y (invF r.z)) = P.y := by
    rw [fq_ml h.ok.y li, ← h.y]
    generalize fq (invF r.z) = i at *
    generalize fq r.z = z at *
    clear h
    grind
  have hx : fq (mlF r.x (invF r.z)) = P.x := by
    rw [fq_ml h.ok.x li, ← h.x]
    generalize fq (invF r.z) = i at *
    generalize fq r.z = z at *
    clear h
    grind
  unfold encR enc
  rw [← fq_v, ← fq_v, hx, hy]
theorem encQ_rp {p : P4} {P : Ed.Pt} (h : Rp p P) : encQ p = enc P := by unfold encQ; rw [h.rt]; exact encR_rp h
theorem encQ_z : encQ pz = enc Ed.Pt.zero := by unfold encQ; exact encR_rp rp_zero
theorem neg_v (a : Ed.Fq) : (-a).v = if a.v = 0 then 0 else PP - a.v := by
  have h := v_lt a
  show (PP - a.v) % PP = _
  split
  · rename_i h0; rw [h0, Nat.sub_zero, Nat.mod_self]
  · exact Nat.mod_eq_of_lt (by omega)
theorem on_x (P : Ed.Pt) : P.x * P.x * (Ed.D * P.y * P.y + 1) = P.y * P.y - 1 := by
  have h := P.on
  unfold Ed.onC at h
  generalize Ed.D = D at *
  generalize P.x = x at *
  generalize P.y = y at *
  grind
theorem v_ne (y : Ed.Fq) : Ed.D * y * y + 1 ≠ 0 := fun h => by
  have hy : y ≠ 0 := fun e => one_ne0 (by rw [e] at h; grind)
  have hi := Ed.mul_inv' y hy
  have hI := Ed.root_I
  refine Ed.non_D (Ed.mk Ed.In * Ed.inv y) ?_
  generalize Ed.mk Ed.In = I at *
  generalize Ed.inv y = i at *
  generalize Ed.D = D at *
  have e1 : D * y * y = -1 := by clear hi hI hy; grind
  have e2 : I * i * (I * i) = I * I * (i * i) := by clear h hi hI hy e1; grind
  have e3 : D = D * y * y * (i * i) := by
    have : D * y * y * (i * i) = D * (y * i) * (y * i) := by clear h hi hI hy e1 e2; grind
    rw [this, hi]
    clear this h hi hI hy e1 e2
    grind
  rw [e2, hI, e3, e1]
theorem sub_cancel {a b : Ed.Fq} (h : a - b = 0) : a = b := by grind
theorem add_cancel {a b : Ed.Fq} (h : a + b = 0) : a = -b := by grind
theorem sq_two {a b : Ed.Fq} (h : a * a = b * b) : a = b ∨ a = -b := by
  have e : (a - b) * (a + b) = 0 := by grind
  exact (Ed.mul_cancel' e).imp sub_cancel add_cancel
theorem x_of {P Q : Ed.Pt} (hy : P.y = Q.y) : P.x = Q.x ∨ P.x = -Q.x := by
  have h1 := on_x P
  have h2 := on_x Q
  have hv := v_ne Q.y
  rw [hy] at h1
  apply sq_two
  rw [← h2] at h1
  have e : (P.x * P.x - Q.x * Q.x) * (Ed.D * Q.y * Q.y + 1) = 0 := by
    generalize P.x * P.x = a at *
    generalize Q.x * Q.x = b at *
    generalize Ed.D * Q.y * Q.y + 1 = c at *
    clear h2 hv hy
    grind
  exact (Ed.mul_cancel' e).elim sub_cancel fun h => absurd h hv
theorem P_odd : PP % 2 = 1 := by decide +kernel
theorem enc_inj {P Q : Ed.Pt} (h : enc P = enc Q) : P = Q := by
  have hp := v_lt P.y
  have hq := v_lt Q.y
  have hs : P.y.v = Q.y.v ∧ (P.x.v % 2 = 1 ↔ Q.x.v % 2 = 1) := by
    unfold enc T255 PP at *
    split at h <;> split at h <;> constructor <;> omega
  have hy : P.y = Q.y := Ed.Fq.ext hs.1
  refine Ed.Pt.ext ?_ hy
  rcases x_of hy with e | e
  · exact e
  · have hn := neg_v Q.x
    rw [← e] at hn
    have h1 := v_lt Q.x
    have h2 := P_odd
    split at hn
    · exact Ed.Fq.ext (by omega)
    · exfalso; omega
theorem le_mod255 (X : Nat) : leV (le (X % T255) 32) = X % T255 := by
  rw [leV_le]
  apply Nat.mod_eq_of_lt
  have : X % T255 < T255 := Nat.mod_lt _ (by decide +kernel)
  unfold T255 at *
  omega
theorem dcN_eq (X : Nat) : dcN X = decide (X % T255 < PP) := by unfold dcN newB; rw [le_mod255]
theorem dcO_eq {X : Nat} (h : X < T256) : dcO X = decide (T255 ≤ X) := by
  unfold dcO
  rw [decide_eq_decide]
  unfold c31 T248 T255 T256 at *
  omega
/-- The y that bytes say. -/
def yOf (X : Nat) : Ed.Fq := Ed.mk (X % T255)
theorem fq_dcY {X : Nat} (h : dcN X = true) : fq (dcY X) = yOf X := by
  unfold dcY
  rw [fq_new _ h, le_mod255]; rfl
theorem yOf_v {X : Nat} (h : dcN X = true) : (yOf X).v = X % T255 := by
  rw [dcN_eq] at h
  exact Nat.mod_eq_of_lt (of_decide_eq_true h)
theorem fq_dcU {X : Nat} (h : dcN X = true) : fq (dcU X) = yOf X * yOf X - 1 := by
  have l := dcY_lim X
  unfold dcU
  rw [fq_su (mlF_lim l l) (smL_lim 1 (by omega)), fq_ml l l, fq_s1, fq_dcY h]
theorem fq_dcV {X : Nat} (h : dcN X = true) : fq (dcV X) = yOf X * yOf X * Ed.D + 1 := by
  have l := dcY_lim X
  unfold dcV
  rw [fq_ad (mlF_lim (mlF_lim l l) kD_lim) (smL_lim 1 (by omega)), fq_ml (mlF_lim l l) kD_lim, fq_ml l l, fq_s1, fq_dcY h, fq_kD]
theorem dcZ_eq (X : Nat) : dcZ X = decide ((fq (dcR X)).v = 0) := by
  unfold dcZ
  rw [← le_zero, le_beq _ _ (Nat.mod_lt _ PP_pos) PP_pos, decide_eq_decide, ← fq_v]
/-- The root's Bool, its square, its parity. -/
theorem dcB_eq (X : Nat) : rtB (dcU X) (dcV X) = okM (fv (dcU X)) (fv (dcV X)) := (rep_self (dcU_lim X)).ok (rep_self (dcV_lim X))
theorem dcR_sq {X : Nat} (h : rtB (dcU X) (dcV X) = true) : fq (dcR X) * fq (dcR X) * fq (dcV X) = fq (dcU X) ∧ (fq (dcR X)).v % 2 = 0 := by
  rw [dcB_eq] at h
  have hr := (rep_self (dcU_lim X)).rt (rep_self (dcV_lim X)) h
  have e := fq_rep hr
  constructor
  · show fq (rtF (dcU X) (dcV X)) * fq (rtF (dcU X) (dcV X)) * fq (dcV X) = fq (dcU X)
    rw [e]
    exact (congrArg (Ed.mul · (fq (dcV X))) (Ed.mul_mk _ _)).trans ((Ed.mul_mk _ _).trans (Ed.mk_eq.2 (root_back h)))
  · show (fq (rtF (dcU X) (dcV X))).v % 2 = 0
    have h2 := rt_even (fv (dcU X)) (fv (dcV X))
    rw [PP_p] at h2
    rw [e, Ed.mk_v]
    exact h2
theorem pt_on {x y : Ed.Fq} (h : x * x * (y * y * Ed.D + 1) = y * y - 1) : Ed.onC Ed.D x y := by
  unfold Ed.onC
  generalize Ed.D = D at *
  grind
theorem split255 {X : Nat} (h : X < T256) : X = X % T255 + (if T255 ≤ X then T255 else 0) := by
  unfold T255 T256 at *
  split <;> omega
theorem enc_of {P : Ed.Pt} {X : Nat} (hX : X < T256) (hn : dcN X = true) (hy : P.y = yOf X) (hx : P.x.v % 2 = 1 ↔ T255 ≤ X) : enc P = X := by
  unfold enc
  rw [hy, yOf_v hn]
  have e : (if P.x.v % 2 = 1 then T255 else 0) = if T255 ≤ X then T255 else 0 := by
    by_cases h : T255 ≤ X
    · rw [if_pos h, if_pos (hx.2 h)]
    · rw [if_neg h, if_neg (fun e => h (hx.1 e))]
  rw [e]
  exact (split255 hX).symm
theorem dec_sound {X : Nat} (hX : X < T256) (h : dcOk X = true) : ∃ P, Rp (dcQ X) P ∧ enc P = X := by
  rw [dcQ_yes X h]
  unfold dcOk at h
  rw [Bool.and_eq_true, Bool.and_eq_true] at h
  obtain ⟨hn, hr, hz⟩ := h
  have hs := dcR_sq hr
  rw [fq_dcU hn, fq_dcV hn] at hs
  obtain ⟨hs, he⟩ := hs
  have hO := dcO_eq hX
  have lR := dcR_lim X
  have l0 := smL_lim 0 (by omega)
  have hp := P_odd
  by_cases ho : T255 ≤ X
  · rw [decide_eq_true ho] at hO
    rw [hO, dcZ_eq, Bool.true_and] at hz
    have hz3 : ¬ (fq (dcR X)).v = 0 := fun e => by rw [decide_eq_true e] at hz; exact absurd hz (by decide)
    rw [hO, if_pos rfl]
    have ex : fq (suF (smL 0) (dcR X)) = - fq (dcR X) := by rw [fq_su l0 lR, fq_s0]; grind
    refine ⟨⟨- fq (dcR X), yOf X, pt_on ?_⟩, Rp.af (suF_lim l0 lR) (dcY_lim X) ex.symm (fq_dcY hn).symm, enc_of hX hn rfl ?_⟩
    · rw [← hs]
      generalize fq (dcR X) = r at *
      generalize yOf X * yOf X * Ed.D + 1 = v at *
      clear hs hz hz3 he ex
      grind
    · refine ⟨fun _ => ho, fun _ => ?_⟩
      show (- fq (dcR X)).v % 2 = 1
      have hl := v_lt (fq (dcR X))
      rw [neg_v, if_neg hz3]
      omega
  · rw [decide_eq_false ho] at hO
    rw [hO, if_neg (by decide)]
    refine ⟨⟨fq (dcR X), yOf X, pt_on hs⟩, Rp.af lR (dcY_lim X) rfl (fq_dcY hn).symm, enc_of hX hn rfl ?_⟩
    refine ⟨fun e => ?_, fun e => absurd e ho⟩
    have e2 : (fq (dcR X)).v % 2 = 1 := e
    omega
theorem mul_v (a b : Ed.Fq) : (a * b).v = a.v * b.v % PP := rfl
theorem dec_full (P : Ed.Pt) : dcOk (enc P) = true := by
  have hX := enc_lt P
  have hyl := v_lt P.y
  have hmod : enc P % T255 = P.y.v := by
    unfold enc T255 PP at *
    split <;> omega
  have hn : dcN (enc P) = true := by rw [dcN_eq, hmod]; exact decide_eq_true hyl
  have hy : yOf (enc P) = P.y := Ed.Fq.ext (by rw [yOf_v hn, hmod])
  have hU := fq_dcU hn
  have hV := fq_dcV hn
  rw [hy] at hU hV
  have hvn : fq (dcV (enc P)) ≠ 0 := by
    rw [hV]
    have := v_ne P.y
    rwa [show P.y * P.y * Ed.D = Ed.D * P.y * P.y from by grind]
  have hon := on_x P
  have hrel : P.x * P.x * fq (dcV (enc P)) = fq (dcU (enc P)) := by
    rw [hU, hV, ← hon]
    generalize Ed.D = D at *
    clear hU hV hvn hon hy
    grind
  have hv0 : fv (dcV (enc P)) % PP ≠ 0 := fun e => hvn (Ed.Fq.ext (e.trans Ed.v_zero.symm))
  have hr : rtB (dcU (enc P)) (dcV (enc P)) = true := by
    rw [dcB_eq]
    unfold okM
    rw [decide_eq_true hv0, Bool.true_and, decide_eq_true_eq, mlM_mod]
    refine x1_yes (sq_pow (x := P.x.v) ?_)
    unfold wM
    rw [mlM_mod]
    have e1 : P.x.v * P.x.v * fv (dcV (enc P)) % PP = fv (dcU (enc P)) % PP := by
      have := congrArg Ed.Fq.v hrel
      rw [mul_v, mul_v] at this
      have e2 : (fq (dcV (enc P))).v = fv (dcV (enc P)) % PP := rfl
      rw [e2, Nat.mul_mod] at this
      simp only [Nat.mod_mod] at this
      rw [← Nat.mul_mod] at this
      exact this
    have e2 := inv_mul hv0
    rw [← mm e1 rfl, show P.x.v * P.x.v * fv (dcV (enc P)) * invM (fv (dcV (enc P))) = P.x.v * P.x.v * (fv (dcV (enc P)) * invM (fv (dcV (enc P)))) from by rw [Nat.mul_assoc], mm rfl (e2.trans (show 1 = 1 % PP by decide +kernel)), Nat.mul_one]
  unfold dcOk
  rw [hn, hr, Bool.true_and, Bool.true_and, Bool.not_eq_true', Bool.and_eq_false_iff]
  by_cases ho : P.x.v % 2 = 1
  · right
    rw [dcZ_eq]
    refine decide_eq_false fun e0 => ?_
    have e : fq (dcR (enc P)) = 0 := Ed.Fq.ext (e0.trans Ed.v_zero.symm)
    have hs := (dcR_sq hr).1
    rw [e, ← hrel] at hs
    have h0 : P.x * P.x * fq (dcV (enc P)) = 0 := by rw [← hs]; grind
    rcases Ed.mul_cancel' h0 with h1 | h1
    · rcases Ed.mul_cancel' h1 with h2 | h2 <;> (rw [h2] at ho; exact absurd ho (by rw [Ed.v_zero]; decide))
    · exact hvn h1
  · left
    rw [dcO_eq hX]
    refine decide_eq_false fun e => ?_
    unfold enc at e
    rw [if_neg ho] at e
    unfold T255 PP at *
    omega
theorem dec_enc (P : Ed.Pt) : Rp (dcQ (enc P)) P := by
  obtain ⟨Q, hq, he⟩ := dec_sound (enc_lt P) (dec_full P)
  rwa [enc_inj he] at hq
end Go.Proofs.Ytdbngnlpafcogaa

namespace Go.Proofs.Ytdbngnlpafcogaa
open Go.RowKit Go.Mem Go.Txt

/-- A point of the program's stands for a point: the zero value, too. -/
structure Rq (p : P4) (P : Ed.Pt) : Prop where
  ok : p.Ok
  r : Rp (rtQ p) P
theorem Rp.q {p : P4} {P : Ed.Pt} (h : Rp p P) : Rq p P := ⟨h.ok, by rw [h.rt]; exact h⟩
theorem rq_z : Rq pz Ed.Pt.zero := ⟨pz_ok, rp_zero⟩
theorem Rq.enc {p : P4} {P : Ed.Pt} (h : Rq p P) : encQ p = enc P := encR_rp h.r
theorem Rq.ad {p q : P4} {P Q : Ed.Pt} (h : Rq p P) (h2 : Rq q Q) : Rp (adQ p q) (P + Q) := h.r.pl h2.r
theorem pneg_x (P : Ed.Pt) : P.neg.x = -P.x := by unfold Ed.Pt.neg; rfl
theorem pneg_y (P : Ed.Pt) : P.neg.y = P.y := by unfold Ed.Pt.neg; rfl
theorem Rq.ng {p : P4} {P : Ed.Pt} (h : Rq p P) : Rp (ngQ p) P.neg := by
  have hr := h.r
  have l0 := smL_lim 0 (by omega)
  have ex : fq (ngQ p).x = - fq (rtQ p).x := by show fq (suF (smL 0) (rtQ p).x) = _; rw [fq_su l0 hr.ok.x, fq_s0]; grind
  have et : fq (ngQ p).t = - fq (rtQ p).t := by show fq (suF (smL 0) (rtQ p).t) = _; rw [fq_su l0 hr.ok.t, fq_s0]; grind
  have h1 := hr.x
  have h2 := hr.t
  refine ⟨ngQ_ok h.ok, hr.z, ?_, by rw [pneg_y]; exact hr.y, ?_⟩
  · show P.neg.x * fq (rtQ p).z = _
    rw [ex, pneg_x, ← h1]
    generalize fq (rtQ p).z = z
    generalize P.x = x
    clear h1 h2 ex et hr
    grind
  · show P.neg.x * P.neg.y * fq (rtQ p).z = _
    rw [et, pneg_x, pneg_y, ← h2]
    generalize fq (rtQ p).z = z
    generalize P.x = x
    generalize P.y = y
    clear h1 h2 ex et hr
    grind
theorem Rp.uniq {p : P4} {P Q : Ed.Pt} (h : Rp p P) (h2 : Rp p Q) : P = Q := by
  have hz := h.z
  have c : ∀ a b z : Ed.Fq, z ≠ 0 → a * z = b * z → a = b := fun a b z h0 e => by
    have e2 : (a - b) * z = 0 := by grind
    exact (Ed.mul_cancel' e2).elim sub_cancel fun e => absurd e h0
  exact Ed.Pt.ext (c _ _ _ hz (h.x.trans h2.x.symm)) (c _ _ _ hz (h.y.trans h2.y.symm))
theorem fq_limbs {F G : Nat → Nat} (h : ∀ i, i < 5 → F i = G i) : fq F = fq G := by
  unfold fq fv
  rw [h 0 (by omega), h 1 (by omega), h 2 (by omega), h 3 (by omega), h 4 (by omega)]
theorem Rp.same {p q : P4} {P : Ed.Pt} (h : Rp p P) (hq : q.Ok) (e : p.n = q.n) : Rp q P := by
  have hl := (lits_n p q).2 e
  have ex : fq p.x = fq q.x := fq_limbs fun i hi => (lits_z hl i hi).1
  have ey : fq p.y = fq q.y := fq_limbs fun i hi => (lits_z hl i hi).2.1
  have ez : fq p.z = fq q.z := fq_limbs fun i hi => (lits_z hl i hi).2.2.1
  have et : fq p.t = fq q.t := fq_limbs fun i hi => (lits_z hl i hi).2.2.2
  exact ⟨hq, ez ▸ h.z, ez ▸ ex ▸ h.x, ez ▸ ey ▸ h.y, ez ▸ et ▸ h.t⟩
/-- A point that is the base point cell by cell. -/
theorem same_base {p b : P4} {P B : Ed.Pt} (hb : Rp b B) (h : Rq p P) (e : p.same b = true) : P = B := by
  have e2 : p.n = b.n := of_decide_eq_true e
  have hn : p.none = false := by
    have := hb.some
    unfold P4.none P4.same at this ⊢
    rwa [e2]
  have hr := h.r
  have hrt : rtQ p = p := by unfold rtQ; rw [hn]; rfl
  rw [hrt] at hr
  exact (hr.same hb.ok e2).uniq hb
theorem rows_rp {p : P4} {P : Ed.Pt} (h : Rq p P) : ∀ i, Rp (rowsQ p kK i) (Ed.Pt.mul i P)
  | 0 => rp_zero
  | 1 => by rw [Ed.Pt.mul_1]; exact h.r
  | n + 2 => (rows_rp h (n + 1)).pl h.r
theorem dbN_rp {r : P4} {P : Ed.Pt} (h : Rp r P) : ∀ k, Rp (dbN r k) (Ed.Pt.mul (2 ^ k) P)
  | 0 => by rw [Nat.pow_zero, Ed.Pt.mul_1]; exact h
  | k + 1 => by
    have := (dbN_rp h k).db
    rw [← Ed.Pt.mul_add, ← Nat.two_mul, Nat.mul_comm, ← Nat.pow_succ] at this
    exact this
theorem dig_step (X k : Nat) (hk : k < 64) : X / 2 ^ (256 - 4 * (k + 1)) = X / 2 ^ (256 - 4 * k) * 2 ^ 4 + dgt X (63 - k) := by
  unfold dgt
  rw [show 256 - 4 * k = (252 - 4 * k) + 4 from by omega, show 256 - 4 * (k + 1) = 252 - 4 * k from by omega, show 4 * (63 - k) = 252 - 4 * k from by omega, Nat.pow_add, ← Nat.div_div_eq_div_mul]
  generalize X / 2 ^ (252 - 4 * k) = Y
  omega
theorem T256_pow : T256 = 2 ^ 256 := by decide +kernel
theorem muA_rp {f : Nat → P4} {P : Ed.Pt} (hf : ∀ i, Rp (f i) (Ed.Pt.mul i P)) {X : Nat} (hX : X < T256) : ∀ k, k ≤ 64 → Rp (muA f X k) (Ed.Pt.mul (X / 2 ^ (256 - 4 * k)) P)
  | 0, _ => by
    rw [show X / 2 ^ (256 - 4 * 0) = 0 from Nat.div_eq_of_lt (by rw [T256_pow] at hX; exact hX)]
    exact hf 0
  | k + 1, hk => by
    have := (dbN_rp (muA_rp hf hX k (by omega)) 4).pl (hf (dgt X (63 - k)))
    rw [← Ed.Pt.mul_mul, ← Ed.Pt.mul_add, ← dig_step X k (by omega)] at this
    exact this
theorem mu_rp {p : P4} {P : Ed.Pt} (h : Rq p P) {X : Nat} (hX : X < T256) : Rp (muA (rowsQ p kK) X 64) (Ed.Pt.mul X P) := by
  have := muA_rp (rows_rp h) hX 64 (by omega)
  rwa [show 256 - 4 * 64 = 0 from rfl, Nat.pow_zero, Nat.div_one] at this
theorem boA_rp {f g : Nat → P4} {B P : Ed.Pt} (hf : ∀ i, Rp (f i) (Ed.Pt.mul i B)) (hg : ∀ i, Rp (g i) (Ed.Pt.mul i P)) {X Y : Nat} (hX : X < T256) (hY : Y < T256) :
    ∀ k, k ≤ 64 → Rp (boA f g X Y k) (Ed.Pt.mul (X / 2 ^ (256 - 4 * k)) B + Ed.Pt.mul (Y / 2 ^ (256 - 4 * k)) P)
  | 0, _ => by
    rw [show X / 2 ^ (256 - 4 * 0) = 0 from Nat.div_eq_of_lt (by rw [T256_pow] at hX; exact hX), show Y / 2 ^ (256 - 4 * 0) = 0 from Nat.div_eq_of_lt (by rw [T256_pow] at hY; exact hY), Ed.Pt.mul_0, Ed.Pt.mul_0, Ed.Pt.add_zero]
    exact hf 0
  | k + 1, hk => by
    have := ((dbN_rp (boA_rp hf hg hX hY k (by omega)) 4).pl (hf (dgt X (63 - k)))).pl (hg (dgt Y (63 - k)))
    rw [Ed.Pt.mul_sum, ← Ed.Pt.mul_mul, ← Ed.Pt.mul_mul, Ed.Pt.assoc, Ed.Pt.four, ← Ed.Pt.mul_add, ← Ed.Pt.mul_add, ← dig_step X k (by omega), ← dig_step Y k (by omega)] at this
    exact this
theorem bo_rp {p b : P4} {P B : Ed.Pt} (hb : Rq b B) (h : Rq p P) {X Y : Nat} (hX : X < T256) (hY : Y < T256) : Rp (boA (rowsQ b kK) (rowsQ p kK) X Y 64) (Ed.Pt.mul X B + Ed.Pt.mul Y P) := by
  have := boA_rp (rows_rp hb) (rows_rp h) hX hY 64 (by omega)
  rwa [show 256 - 4 * 64 = 0 from rfl, Nat.pow_zero, Nat.div_one, Nat.div_one] at this
/-- Bit by bit of all bytes at once: what has been summed. -/
def sm (X c : Nat) : Nat → Nat
  | 0 => 0
  | j + 1 => sm X c j + byt X j / 2 ^ c * 256 ^ j
theorem sm_step (X b : Nat) (hb : b < 8) : ∀ j, sm X b j = 2 * sm X (b + 1) j + (List.range j).foldl (fun s i => s + (if tb X (8 * i + b) then 1 else 0) * 256 ^ i) 0
  | 0 => rfl
  | j + 1 => by
    rw [List.range_succ, List.foldl_append, List.foldl_cons, List.foldl_nil, sm, sm, sm_step X b hb j]
    have e : byt X j / 2 ^ b = 2 * (byt X j / 2 ^ (b + 1)) + if tb X (8 * j + b) then 1 else 0 := by
      have h1 := tb_byt X j b hb
      rw [Nat.pow_succ, ← Nat.div_div_eq_div_mul]
      unfold tb
      rw [← h1]
      generalize byt X j / 2 ^ b = y
      by_cases hy : y % 2 = 1
      · rw [if_pos (by simpa using hy)]; omega
      · rw [if_neg (by simpa using hy)]; omega
    rw [e, Nat.add_mul]
    generalize (if tb X (8 * j + b) then 1 else 0) * 256 ^ j = A
    rw [Nat.mul_add, Nat.mul_assoc]
    omega
theorem baI_rp {f : Nat → P4} {B : Ed.Pt} (hf : ∀ i, i < 32 → Rp (f i) (Ed.Pt.mul (256 ^ i) B)) (X b n : Nat) {r : P4} (hr : Rp r (Ed.Pt.mul n B)) :
    ∀ i, i ≤ 32 → Rp (baI f X b r i) (Ed.Pt.mul (n + (List.range i).foldl (fun s i => s + (if tb X (8 * i + b) then 1 else 0) * 256 ^ i) 0) B)
  | 0, _ => hr
  | i + 1, hi => by
    have ih := baI_rp hf X b n hr i (by omega)
    rw [List.range_succ, List.foldl_append, List.foldl_cons, List.foldl_nil, baI]
    by_cases ht : tb X (8 * i + b) = true
    · rw [if_pos ht, if_pos ht, Nat.one_mul, ← Nat.add_assoc, Ed.Pt.mul_add]
      exact ih.pl (hf i (by omega))
    · rw [if_neg ht, if_neg ht, Nat.zero_mul, Nat.add_zero]
      exact ih
theorem baA_rp {f : Nat → P4} {B : Ed.Pt} (hf : ∀ i, i < 32 → Rp (f i) (Ed.Pt.mul (256 ^ i) B)) (X : Nat) : ∀ k, k ≤ 8 → Rp (baA f X k) (Ed.Pt.mul (sm X (8 - k) 32) B)
  | 0, _ => by
    have e : ∀ j, sm X 8 j = 0 := fun j => by
      induction j with
      | zero => rfl
      | succ j ih => rw [sm, ih, show byt X j / 2 ^ 8 = 0 from Nat.div_eq_of_lt (byt_lt X j), Nat.zero_mul]
    rw [show 8 - 0 = 8 from rfl, e]
    exact rp_zero
  | k + 1, hk => by
    have h1 := (baA_rp hf X k (by omega)).db
    rw [← Ed.Pt.mul_add, ← Nat.two_mul] at h1
    have h2 := baI_rp hf X (7 - k) _ h1 32 (by omega)
    rw [show 8 - k = (7 - k) + 1 from by omega, ← sm_step X (7 - k) (by omega)] at h2
    rw [show 8 - (k + 1) = 7 - k from by omega]
    exact h2
theorem sm_all (X : Nat) : ∀ j, sm X 0 j = X % 256 ^ j
  | 0 => by rw [Nat.pow_zero, Nat.mod_one]; rfl
  | j + 1 => by
    rw [sm, sm_all X j, Nat.pow_zero, Nat.div_one, Nat.pow_succ]
    unfold byt
    rw [show (2 : Nat) ^ (8 * j) = 256 ^ j from by rw [Nat.pow_mul], Nat.mod_mul, Nat.mul_comm (256 ^ j)]
theorem ba_rp {f : Nat → P4} {B : Ed.Pt} (hf : ∀ i, i < 32 → Rp (f i) (Ed.Pt.mul (256 ^ i) B)) {X : Nat} (hX : X < T256) : Rp (baA f X 8) (Ed.Pt.mul X B) := by
  have := baA_rp hf X 8 (by omega)
  rw [show 8 - 8 = 0 from rfl, sm_all, show (256 : Nat) ^ 32 = T256 from by decide +kernel, Nat.mod_eq_of_lt hX] at this
  exact this
end Go.Proofs.Ytdbngnlpafcogaa

namespace Go.Proofs.Ytdbngnlpafcogaa
open Go.RowKit Go.Mem Go.Txt

def bxN : Nat := 15112221349535400772501151409588531511454012693041857206046113283949847762202
def byN : Nat := 46316835694926478169428394003475163141307993866256225615783033603165251855960
theorem on_nat {x y : Nat} (h : y * y % PP = (1 + Ed.Dn * x * x * y * y + x * x) % PP) : Ed.onC Ed.D (Ed.mk x) (Ed.mk y) := by
  unfold Ed.onC Ed.D
  have e : Ed.mk y * Ed.mk y = 1 + Ed.mk Ed.Dn * Ed.mk x * Ed.mk x * Ed.mk y * Ed.mk y + Ed.mk x * Ed.mk x := by
    show Ed.mul (Ed.mk y) (Ed.mk y) = Ed.add (Ed.add (Ed.mk 1) (Ed.mul (Ed.mul (Ed.mul (Ed.mul (Ed.mk Ed.Dn) (Ed.mk x)) (Ed.mk x)) (Ed.mk y)) (Ed.mk y))) (Ed.mul (Ed.mk x) (Ed.mk x))
    rw [Ed.mul_mk, Ed.mul_mk, Ed.mul_mk, Ed.mul_mk, Ed.mul_mk, Ed.mul_mk, Ed.add_mk, Ed.add_mk]
    exact Ed.mk_eq.2 h
  generalize Ed.mk Ed.Dn = D at *
  generalize Ed.mk x = X at *
  generalize Ed.mk y = Y at *
  clear h
  grind
/-- The base point. -/
def BB : Ed.Pt := ⟨Ed.mk bxN, Ed.mk byN, on_nat (by decide +kernel)⟩
theorem base_rp : Rp baQ BB := Rp.af (newF_lim _) (newF_lim _) ((fq_new bxB (by decide +kernel)).trans (Ed.mk_eq.2 (by decide +kernel))).symm ((fq_new byB (by decide +kernel)).trans (Ed.mk_eq.2 (by decide +kernel))).symm
/-- Numbers x, y over z. -/
structure N3 where
  x : Nat
  y : Nat
  z : Nat
structure RN (n : N3) (P : Ed.Pt) : Prop where
  z : Ed.mk n.z ≠ 0
  x : P.x * Ed.mk n.z = Ed.mk n.x
  y : P.y * Ed.mk n.z = Ed.mk n.y
def dN (n : N3) : N3 := ⟨2 * n.x * n.y * (2 * (n.z * n.z) + n.x * n.x + (PP * PP - n.y * n.y)) % PP, (n.y * n.y + (PP * PP - n.x * n.x)) * (n.x * n.x + n.y * n.y) % PP, (2 * (n.z * n.z) + n.x * n.x + (PP * PP - n.y * n.y)) * (n.y * n.y + (PP * PP - n.x * n.x)) % PP⟩
structure Sml (n : N3) : Prop where
  x : n.x < PP
  y : n.y < PP
theorem mk_mod (n : Nat) : Ed.mk (n % PP) = Ed.mk n := Ed.mk_eq.2 (Nat.mod_mod _ _)
theorem mk_ad (m n : Nat) : Ed.mk (m + n) = Ed.mk m + Ed.mk n := (Ed.add_mk m n).symm
theorem mk_ml (m n : Nat) : Ed.mk (m * n) = Ed.mk m * Ed.mk n := (Ed.mul_mk m n).symm
theorem mk_2 : Ed.mk 2 = (2 : Ed.Fq) := rfl
theorem mk_sub {a : Nat} (h : a < PP) : Ed.mk (PP * PP - a * a) = - (Ed.mk a * Ed.mk a) := by
  have e : Ed.mk (PP * PP - a * a) + Ed.mk a * Ed.mk a = 0 := by
    rw [← mk_ml, ← mk_ad, Nat.sub_add_cancel (Nat.mul_le_mul (Nat.le_of_lt h) (Nat.le_of_lt h))]
    exact Ed.mk_eq.2 (by decide +kernel)
  exact add_cancel e
theorem Sml.d {n : N3} : Sml (dN n) := ⟨Nat.mod_lt _ PP_pos, Nat.mod_lt _ PP_pos⟩
section
variable {D x1 y1 u X Y : Ed.Fq}
theorem dn_f (hon : y1 * y1 - x1 * x1 = 1 + D * x1 * x1 * y1 * y1) : 2 * (u * u) + x1 * u * (x1 * u) + -(y1 * u * (y1 * u)) = u * u * (1 - D * x1 * x1 * y1 * y1) := by
  have e : D * x1 * x1 * y1 * y1 = y1 * y1 - x1 * x1 - 1 := by grind
  rw [e]
  clear e hon
  grind
theorem dn_g (hon : y1 * y1 - x1 * x1 = 1 + D * x1 * x1 * y1 * y1) : y1 * u * (y1 * u) + -(x1 * u * (x1 * u)) = u * u * (1 + D * x1 * x1 * y1 * y1) := by
  rw [← hon]
  clear hon
  grind
theorem dn_x {m : Ed.Fq} (hx : X * (1 + m) = x1 * y1 + x1 * y1) : X * (u * u * (1 - m) * (u * u * (1 + m))) = 2 * (x1 * u) * (y1 * u) * (u * u * (1 - m)) := by
  have e : X * (u * u * (1 - m) * (u * u * (1 + m))) = X * (1 + m) * (u * u * (1 - m) * (u * u)) := by clear hx; grind
  rw [e, hx]
  clear e hx
  grind
theorem dn_y {m : Ed.Fq} (hy : Y * (1 - m) = y1 * y1 + x1 * x1) : Y * (u * u * (1 - m) * (u * u * (1 + m))) = u * u * (1 + m) * (x1 * u * (x1 * u) + y1 * u * (y1 * u)) := by
  have e : Y * (u * u * (1 - m) * (u * u * (1 + m))) = Y * (1 - m) * (u * u * (1 + m) * (u * u)) := by clear hy; grind
  rw [e, hy]
  clear e hy
  grind
end
theorem RN.d {n : N3} {P : Ed.Pt} (h : RN n P) (s : Sml n) : RN (dN n) (P + P) := by
  have hx := sum_xm P P
  have hy := sum_ym P P
  have n1 := Ed.good.plus P.on P.on
  have n2 := Ed.good.minus P.on P.on
  have hon := P.on
  unfold Ed.onC at hon
  have f0 := dn_f (u := Ed.mk n.z) hon
  have g0 := dn_g (u := Ed.mk n.z) hon
  rw [h.x, h.y] at f0 g0
  have ez : Ed.mk (dN n).z = Ed.mk n.z * Ed.mk n.z * (1 - Ed.D * P.x * P.x * P.y * P.y) * (Ed.mk n.z * Ed.mk n.z * (1 + Ed.D * P.x * P.x * P.y * P.y)) := by
    rw [← f0, ← g0]
    show Ed.mk ((2 * (n.z * n.z) + n.x * n.x + (PP * PP - n.y * n.y)) * (n.y * n.y + (PP * PP - n.x * n.x)) % PP) = _
    rw [mk_mod, mk_ml, mk_ad, mk_ad, mk_ad, mk_ml, mk_ml, mk_ml, mk_ml, mk_sub s.x, mk_sub s.y, mk_2]
  refine ⟨?_, ?_, ?_⟩
  · rw [ez]
    exact Ed.mul_ne (Ed.mul_ne (Ed.mul_ne h.z h.z) n2) (Ed.mul_ne (Ed.mul_ne h.z h.z) n1)
  · rw [ez, dn_x hx, h.x, h.y, ← f0]
    show _ = Ed.mk (2 * n.x * n.y * (2 * (n.z * n.z) + n.x * n.x + (PP * PP - n.y * n.y)) % PP)
    rw [mk_mod, mk_ml, mk_ml, mk_ml, mk_ad, mk_ad, mk_ml, mk_ml, mk_ml, mk_sub s.y, mk_2]
  · rw [ez, dn_y hy, h.x, h.y, ← g0]
    show _ = Ed.mk ((n.y * n.y + (PP * PP - n.x * n.x)) * (n.x * n.x + n.y * n.y) % PP)
    rw [mk_mod, mk_ml, mk_ad, mk_ad, mk_ml, mk_ml, mk_sub s.x]
/-- A point of plain x, y added. -/
def apN (n : N3) (x y : Nat) : N3 :=
  let C := n.x * x % PP
  let Q := n.y * y % PP
  let E := Ed.Dn * C * Q % PP
  ⟨n.z * (n.z * n.z + (PP - E)) * (n.x * y + n.y * x) % PP, n.z * (n.z * n.z + E) * (Q + C) % PP, (n.z * n.z + (PP - E)) * (n.z * n.z + E) % PP⟩
section
variable {D x1 y1 x2 y2 u X Y : Ed.Fq}
theorem an_e : D * (x1 * u * x2) * (y1 * u * y2) = u * u * (D * x1 * x2 * y1 * y2) := by grind
theorem an_m {m : Ed.Fq} : u * u + -(u * u * m) = u * u * (1 - m) := by grind
theorem an_p {m : Ed.Fq} : u * u + u * u * m = u * u * (1 + m) := by grind
theorem an_x {m : Ed.Fq} (hx : X * (1 + m) = x1 * y2 + x2 * y1) : X * (u * u * (1 - m) * (u * u * (1 + m))) = u * (u * u * (1 - m)) * (x1 * u * y2 + y1 * u * x2) := by
  have e : X * (u * u * (1 - m) * (u * u * (1 + m))) = X * (1 + m) * (u * u * (1 - m) * (u * u)) := by clear hx; grind
  rw [e, hx]
  clear e hx
  grind
theorem an_y {m : Ed.Fq} (hy : Y * (1 - m) = y1 * y2 + x1 * x2) : Y * (u * u * (1 - m) * (u * u * (1 + m))) = u * (u * u * (1 + m)) * (y1 * u * y2 + x1 * u * x2) := by
  have e : Y * (u * u * (1 - m) * (u * u * (1 + m))) = Y * (1 - m) * (u * u * (1 + m) * (u * u)) := by clear hy; grind
  rw [e, hy]
  clear e hy
  grind
end
theorem mk_neg {a : Nat} (h : a < PP) : Ed.mk (PP - a) = - Ed.mk a := by
  have e : Ed.mk (PP - a) + Ed.mk a = 0 := by
    rw [← mk_ad, Nat.sub_add_cancel (Nat.le_of_lt h)]
    exact Ed.mk_eq.2 (by decide +kernel)
  exact add_cancel e
theorem RN.a {n : N3} {P Q : Ed.Pt} {x y : Nat} (h : RN n P) (hqx : Q.x = Ed.mk x) (hqy : Q.y = Ed.mk y) : RN (apN n x y) (P + Q) := by
  have hx := sum_xm P Q
  have hy := sum_ym P Q
  have n1 := Ed.good.plus P.on Q.on
  have n2 := Ed.good.minus P.on Q.on
  have ee : Ed.mk (Ed.Dn * (n.x * x % PP) * (n.y * y % PP) % PP) = Ed.mk n.z * Ed.mk n.z * (Ed.D * P.x * Q.x * P.y * Q.y) := by
    rw [← an_e, h.x, h.y, hqx, hqy, mk_mod, mk_ml, mk_ml, mk_mod, mk_mod, mk_ml, mk_ml]
    unfold Ed.D
    rfl
  have hl : Ed.Dn * (n.x * x % PP) * (n.y * y % PP) % PP < PP := Nat.mod_lt _ PP_pos
  have ez : Ed.mk (apN n x y).z = Ed.mk n.z * Ed.mk n.z * (1 - Ed.D * P.x * Q.x * P.y * Q.y) * (Ed.mk n.z * Ed.mk n.z * (1 + Ed.D * P.x * Q.x * P.y * Q.y)) := by
    show Ed.mk ((n.z * n.z + (PP - Ed.Dn * (n.x * x % PP) * (n.y * y % PP) % PP)) * (n.z * n.z + Ed.Dn * (n.x * x % PP) * (n.y * y % PP) % PP) % PP) = _
    rw [mk_mod, mk_ml, mk_ad, mk_ad, mk_neg hl, ee, mk_ml, an_m, an_p]
  refine ⟨?_, ?_, ?_⟩
  · rw [ez]
    exact Ed.mul_ne (Ed.mul_ne (Ed.mul_ne h.z h.z) n2) (Ed.mul_ne (Ed.mul_ne h.z h.z) n1)
  · rw [ez, an_x hx, h.x, h.y, hqx, hqy]
    show _ = Ed.mk (n.z * (n.z * n.z + (PP - Ed.Dn * (n.x * x % PP) * (n.y * y % PP) % PP)) * (n.x * y + n.y * x) % PP)
    rw [mk_mod, mk_ml, mk_ml, mk_ad, mk_ad, mk_neg hl, ee, mk_ml, mk_ml, mk_ml, an_m, hqx, hqy]
  · rw [ez, an_y hy, h.x, h.y, hqx, hqy]
    show _ = Ed.mk (n.z * (n.z * n.z + Ed.Dn * (n.x * x % PP) * (n.y * y % PP) % PP) * (n.y * y % PP + n.x * x % PP) % PP)
    rw [mk_mod, mk_ml, mk_ml, mk_ad, mk_ad, ee, mk_mod, mk_mod, mk_ml, mk_ml, mk_ml, an_p, hqx, hqy]
/-- So many of a point, bit by bit. -/
def mN (x y : Nat) : Nat → Nat → N3
  | 0, _ => ⟨0, 1, 1⟩
  | f + 1, n => if n % 2 = 1 then apN (dN (mN x y f (n / 2))) x y else dN (mN x y f (n / 2))
theorem rn_zero : RN ⟨0, 1, 1⟩ Ed.Pt.zero := ⟨one_ne0, by rw [zero_x]; show (0 : Ed.Fq) * 1 = 0; grind, by rw [zero_y]; show (1 : Ed.Fq) * 1 = 1; grind⟩
theorem mN_sm (x y : Nat) : ∀ f n, Sml (mN x y f n)
  | 0, _ => ⟨PP_pos, show 1 < PP by decide +kernel⟩
  | f + 1, n => by
    unfold mN
    split
    · exact ⟨Nat.mod_lt _ PP_pos, Nat.mod_lt _ PP_pos⟩
    · exact Sml.d
theorem mN_rn {x y : Nat} {Q : Ed.Pt} (hqx : Q.x = Ed.mk x) (hqy : Q.y = Ed.mk y) : ∀ f n, n < 2 ^ f → RN (mN x y f n) (Ed.Pt.mul n Q)
  | 0, n, h => by
    obtain rfl : n = 0 := by simpa using h
    exact rn_zero
  | f + 1, n, h => by
    have ih := (mN_rn hqx hqy f (n / 2) (by rw [Nat.pow_succ] at h; omega)).d (mN_sm x y f (n / 2))
    rw [← Ed.Pt.mul_add] at ih
    unfold mN
    split
    · have := ih.a hqx hqy
      rw [← Ed.Pt.mul_succ, show n / 2 + n / 2 + 1 = n from by omega] at this
      exact this
    · rwa [show n / 2 + n / 2 = n from by omega] at ih
/-- The base point's order. -/
def LL : Nat := 7237005577332262213973186563042994240857116359379907606001950938285454250989
theorem LL_pm : (mN bxN byN 253 LL).x % PP = 0 ∧ (mN bxN byN 253 LL).y % PP = (mN bxN byN 253 LL).z % PP := by decide +kernel
theorem RN.zero {n : N3} {P : Ed.Pt} (h : RN n P) (hx : n.x % PP = 0) (hy : n.y % PP = n.z % PP) : P = Ed.Pt.zero := by
  have e1 : Ed.mk n.x = 0 := Ed.mk_eq.2 (hx.trans (Nat.zero_mod _).symm)
  have e2 : Ed.mk n.y = Ed.mk n.z := Ed.mk_eq.2 hy
  have h1 := h.x
  have h2 := h.y
  have hz := h.z
  rw [e1] at h1
  rw [e2] at h2
  refine Ed.Pt.ext ?_ ?_
  · rw [zero_x]
    exact (Ed.mul_cancel' h1).elim id fun e => absurd e hz
  · rw [zero_y]
    have : (P.y - 1) * Ed.mk n.z = 0 := by
      generalize Ed.mk n.z = z at *
      generalize P.y = y at *
      clear e1 e2 h1 hz h
      grind
    exact (Ed.mul_cancel' this).elim sub_cancel fun e => absurd e hz
theorem order_B : Ed.Pt.mul LL BB = Ed.Pt.zero := (mN_rn (Q := BB) rfl rfl 253 LL (by decide +kernel)).zero LL_pm.1 LL_pm.2
end Go.Proofs.Ytdbngnlpafcogaa

namespace Go.Proofs.Ytdbngnlpafcogaa
open Go.RowKit Go.Mem Go.Txt

/-- A number of hex digits, the lowest byte first. -/
def rdL : Nat → List UInt8 → Nat
  | 0, _ => 0
  | k + 1, l => match l with
    | a :: b :: l' => nib a.toNat * 16 + nib b.toNat + 256 * rdL k l'
    | _ => 0
def d8 (n : N3) : N3 := dN (dN (dN (dN (dN (dN (dN (dN n)))))))
/-- Each point is 256 times the one ahead. -/
def ckL : Nat → Nat → Nat → List UInt8 → Bool
  | 0, _, _, _ => true
  | n + 1, x, y, l =>
    decide (rdL 32 l < PP) && decide (rdL 32 (l.drop 64) < PP) && decide (rdL 32 l * (d8 ⟨x, y, 1⟩).z % PP = (d8 ⟨x, y, 1⟩).x % PP) && decide (rdL 32 (l.drop 64) * (d8 ⟨x, y, 1⟩).z % PP = (d8 ⟨x, y, 1⟩).y % PP) && ckL n (rdL 32 l) (rdL 32 (l.drop 64)) (l.drop 128)
def ckS (s : ByteArray) : Bool := decide (rdL 32 s.data.toList = bxN) && decide (rdL 32 (s.data.toList.drop 64) = byN) && ckL 31 bxN byN (s.data.toList.drop 128)
theorem ck_ex : ckS (strIn Try.f116) = true := by kernel_rfl
theorem RN.d8 {n : N3} {P : Ed.Pt} (h : RN n P) (s : Sml n) : RN (d8 n) (Ed.Pt.mul 256 P) := by
  have := (((((((h.d s).d Sml.d).d Sml.d).d Sml.d).d Sml.d).d Sml.d).d Sml.d).d Sml.d
  have e : ∀ m, Ed.Pt.mul m P + Ed.Pt.mul m P = Ed.Pt.mul (2 * m) P := fun m => by rw [← Ed.Pt.mul_add, Nat.two_mul]
  have e1 : P + P = Ed.Pt.mul 2 P := by have := e 1; rwa [Ed.Pt.mul_1] at this
  rw [e1, e, e, e, e, e, e, e] at this
  exact this
theorem RN.plain {n : N3} {P : Ed.Pt} {x y : Nat} (h : RN n P) (hx : x * n.z % PP = n.x % PP) (hy : y * n.z % PP = n.y % PP) : P.x = Ed.mk x ∧ P.y = Ed.mk y := by
  have hz := h.z
  have c : ∀ a b z : Ed.Fq, z ≠ 0 → a * z = b * z → a = b := fun a b z h0 e => by
    have e2 : (a - b) * z = 0 := by grind
    exact (Ed.mul_cancel' e2).elim sub_cancel fun e => absurd e h0
  exact ⟨c _ _ _ hz (h.x.trans ((Ed.mk_eq.2 hx.symm).trans (mk_ml _ _))), c _ _ _ hz (h.y.trans ((Ed.mk_eq.2 hy.symm).trans (mk_ml _ _)))⟩
theorem ckL_pts : ∀ (n x y : Nat) (l : List UInt8) (P : Ed.Pt), ckL n x y l = true → x < PP → y < PP → P.x = Ed.mk x → P.y = Ed.mk y → ∀ i, i < n →
    rdL 32 (l.drop (128 * i)) < PP ∧ rdL 32 (l.drop (128 * i + 64)) < PP ∧ (Ed.Pt.mul (256 ^ (i + 1)) P).x = Ed.mk (rdL 32 (l.drop (128 * i))) ∧ (Ed.Pt.mul (256 ^ (i + 1)) P).y = Ed.mk (rdL 32 (l.drop (128 * i + 64)))
  | 0, _, _, _, _, _, _, _, _, _, i, hi => absurd hi (by omega)
  | n + 1, x, y, l, P, h, hx, hy, hPx, hPy, i, hi => by
    unfold ckL at h
    simp only [Bool.and_eq_true, decide_eq_true_eq] at h
    obtain ⟨⟨⟨⟨h1, h2⟩, h3⟩, h4⟩, h5⟩ := h
    have hr : RN ⟨x, y, 1⟩ P := ⟨one_ne0, by rw [hPx]; show Ed.mk x * 1 = Ed.mk x; grind, by rw [hPy]; show Ed.mk y * 1 = Ed.mk y; grind⟩
    obtain ⟨e1, e2⟩ := (hr.d8 ⟨hx, hy⟩).plain h3 h4
    cases i with
    | zero =>
      rw [Nat.mul_zero, Nat.zero_add, List.drop_zero, Nat.zero_add, Nat.pow_one]
      exact ⟨h1, h2, e1, e2⟩
    | succ i =>
      have ih := ckL_pts n _ _ _ (Ed.Pt.mul 256 P) h5 h1 h2 e1 e2 i (by omega)
      rw [List.drop_drop, List.drop_drop, ← Ed.Pt.mul_mul, show 256 * 256 ^ (i + 1) = 256 ^ (i + 1 + 1) from by rw [Nat.pow_succ _ (i + 1), Nat.mul_comm], show 128 + 128 * i = 128 * (i + 1) from by omega, show 128 + (128 * i + 64) = 128 * (i + 1) + 64 from by omega] at ih
      exact ih
theorem ckS_pts {s : ByteArray} (h : ckS s = true) : ∀ i, i < 32 → rdL 32 (s.data.toList.drop (128 * i)) < PP ∧ rdL 32 (s.data.toList.drop (128 * i + 64)) < PP ∧ (Ed.Pt.mul (256 ^ i) BB).x = Ed.mk (rdL 32 (s.data.toList.drop (128 * i))) ∧ (Ed.Pt.mul (256 ^ i) BB).y = Ed.mk (rdL 32 (s.data.toList.drop (128 * i + 64))) := by
  intro i hi
  unfold ckS at h
  simp only [Bool.and_eq_true, decide_eq_true_eq] at h
  obtain ⟨⟨h1, h2⟩, h3⟩ := h
  cases i with
  | zero =>
    rw [Nat.mul_zero, Nat.zero_add, List.drop_zero, Nat.pow_zero, Ed.Pt.mul_1, h1, h2]
    exact ⟨by decide +kernel, by decide +kernel, rfl, rfl⟩
  | succ i =>
    have := ckL_pts 31 _ _ _ BB h3 (by decide +kernel) (by decide +kernel) rfl rfl i (by omega)
    rw [List.drop_drop, List.drop_drop, show 128 + 128 * i = 128 * (i + 1) from by omega, show 128 + (128 * i + 64) = 128 * (i + 1) + 64 from by omega] at this
    exact this
theorem stB_cons {s : ByteArray} (hs : s.size = 4096) (j : Nat) (hj : j < 4096) : ∃ a, s.data.toList.drop j = a :: s.data.toList.drop (j + 1) ∧ a.toNat = stB s j := by
  have hl : s.data.toList.length = 4096 := by rw [Array.length_toList]; exact hs
  refine ⟨s.data.toList[j]'(by omega), List.drop_eq_getElem_cons (by omega), ?_⟩
  have hsz : s.data.size = 4096 := hs
  unfold stB
  simp [Array.getD, hsz, hj]
theorem rd_hx {s : ByteArray} (hs : Lad s) : ∀ k m, m + k ≤ 2048 → leV ((List.range k).map fun i => UInt8.ofNat (nv s (m + i))) = rdL k (s.data.toList.drop (2 * m))
  | 0, _, _ => rfl
  | k + 1, m, h => by
    have ih := rd_hx hs k (m + 1) (by omega)
    obtain ⟨a, ea, va⟩ := stB_cons hs.size (2 * m) (by omega)
    obtain ⟨b, eb, vb⟩ := stB_cons hs.size (2 * m + 1) (by omega)
    have n1 := nib_lt (hs.hex (2 * m) (by omega))
    have n2 := nib_lt (hs.hex (2 * m + 1) (by omega))
    rw [List.range_succ_eq_map, List.map_cons, List.map_map, leV, ea, eb, rdL, va, vb]
    have e : (UInt8.ofNat (nv s (m + 0))).toNat = nib (stB s (2 * m)) * 16 + nib (stB s (2 * m + 1)) := by
      unfold nv
      rw [Nat.add_zero]
      simp
      omega
    rw [e]
    congr 2
    rw [show 2 * m + 1 + 1 = 2 * (m + 1) from by omega, ← ih]
    congr 1
    refine List.map_congr_left fun i _ => ?_
    show UInt8.ofNat (nv s (m + (i + 1))) = UInt8.ofNat (nv s (m + 1 + i))
    rw [show m + (i + 1) = m + 1 + i from by omega]
theorem hx_rd {s : ByteArray} (hs : Lad s) (m : Nat) (h : m < 64) : leV (hx s m) = rdL 32 (s.data.toList.drop (64 * m)) := by
  unfold hx
  rw [rd_hx hs 32 (32 * m) (by omega), show 2 * (32 * m) = 64 * m from by omega]
theorem la_rp {s : ByteArray} (hs : Lad s) (hc : ckS s = true) (i : Nat) (hi : i < 32) : Rp (laQ s i) (Ed.Pt.mul (256 ^ i) BB) := by
  obtain ⟨h1, h2, h3, h4⟩ := ckS_pts hc i hi
  have e1 := hx_rd hs (2 * i) (by omega)
  have e2 := hx_rd hs (2 * i + 1) (by omega)
  rw [show 64 * (2 * i) = 128 * i from by omega] at e1
  rw [show 64 * (2 * i + 1) = 128 * i + 64 from by omega] at e2
  rw [← e1] at h1 h3
  rw [← e2] at h2 h4
  exact Rp.af (newF_lim _) (newF_lim _) (h3.trans (fq_new _ (decide_eq_true h1)).symm) (h4.trans (fq_new _ (decide_eq_true h2)).symm)
/-- Multiples of any point. -/
theorem mul_rp {s : ByteArray} (hs : Lad s) (hc : ckS s = true) {p : P4} {P : Ed.Pt} (h : Rq p P) {X : Nat} (hX : X < T256) : Rp (mulQ s p X) (Ed.Pt.mul X P) := by
  unfold mulQ
  cases hb : p.same baQ with
  | true =>
    rw [if_pos rfl, same_base base_rp h hb]
    exact ba_rp (la_rp hs hc) hX
  | false =>
    rw [if_neg (by simp)]
    exact mu_rp h hX
end Go.Proofs.Ytdbngnlpafcogaa

namespace Go.Proofs.Ytdbngnlpafcogaa
open Go.RowKit Go.Mem Go.Txt

theorem lt_pow {X : Nat} (h : X < T256) : X < 2 ^ (8 * 32) := by rw [T256_pow] at h; exact h
theorem eq_dec {X Y : Nat} (hX : X < T256) (hY : Y < T256) (W : World) : (Op.equalIn 10000 26 (ab (le X 32)) (ab (le Y 32))).run Try.prog W = .ok (decide (X = Y)) W := by
  have q := run_eqIn_ab arrB Try.underlying5 (by kernel_rfl) (le X 32) (le Y 32) (le_len _ _) (le_len _ _) W
  rwa [le_beq2 _ _ (lt_pow hX) (lt_pow hY)] at q
theorem eq_same (X : Nat) (W : World) : (Op.equalIn 10000 26 (ab (le X 32)) (ab (le X 32))).run Try.prog W = .ok true W := by
  have q := run_eqIn_ab arrB Try.underlying5 (by kernel_rfl) (le X 32) (le X 32) (le_len _ _) (le_len _ _) W
  rwa [show (le X 32 == le X 32) = true from beq_self_eq_true _] at q
theorem lit_built (b : UInt8) : Try.prog.built 26 [(0, .int .u8 (b.toNat : Int))] = some (bv (le b.toNat 32)).toArray := by
  obtain ⟨l, h1, _, _, h4⟩ := lit_bytes b
  rw [← lit_le, ← h1]
  exact h4
theorem lit_b0 : Try.prog.built 26 [] = some (bv (le 0 32)).toArray := by rw [le_zero]; exact build_b
abbrev BsC (b : P4) : Prop := ∀ W, Calls Try.prog 36 #[] W fun e w' => e = .returned b.v ∧ Kept [] W w'
theorem base_e : ∃ b, BsC b ∧ Rq b BB := ⟨baQ, base_any, base_rp.q⟩
theorem hash_e {p : P4} {P : Ed.Pt} (h : Rq p P) : PhC p (enc P) := by
  have := phash_c h.ok
  rwa [h.enc] at this
theorem add_e {p q : P4} {P Q : Ed.Pt} (h : Rq p P) (h2 : Rq q Q) : ∃ r, AddC p q r ∧ Rq r (P + Q) := ⟨adQ p q, add_c h.ok h2.ok, (h.ad h2).q⟩
abbrev NgC (p r : P4) : Prop := P1C 48 p r
theorem neg_e {p : P4} {P : Ed.Pt} (h : Rq p P) : ∃ r, NgC p r ∧ Rq r P.neg := ⟨ngQ p, neg_c h.ok, h.ng.q⟩
theorem mul_e {p : P4} {P : Ed.Pt} (h : Rq p P) {X : Nat} (hX : X < T256) : ∃ r, MuC p X r ∧ Rq r (Ed.Pt.mul X P) := ⟨_, mul_c lad_ex h.ok X, (mul_rp lad_ex ck_ex h hX).q⟩
theorem both_e {p : P4} {P : Ed.Pt} (h : Rq p P) {X Y : Nat} (hX : X < T256) (hY : Y < T256) : ∃ r, BoC p X Y r ∧ Rq r (Ed.Pt.mul X BB + Ed.Pt.mul Y P) := ⟨_, both_any h.ok X Y, (bo_rp base_rp.q h hX hY).q⟩
theorem adN_rq {p : P4} {P : Ed.Pt} (h : Rq p P) : ∀ k, Rq (adN p k) (Ed.Pt.mul (2 ^ k) P)
  | 0 => by rw [Nat.pow_zero, Ed.Pt.mul_1]; exact h
  | k + 1 => by
    have := ((adN_rq h k).ad (adN_rq h k)).q
    rw [← Ed.Pt.mul_add, ← Nat.two_mul, Nat.mul_comm, ← Nat.pow_succ] at this
    exact this
theorem enc_zero : enc Ed.Pt.zero = 1 := by
  unfold enc
  rw [zero_x, zero_y]
  decide +kernel
theorem one_lt : 1 < T256 := by decide +kernel
theorem enc_one {P : Ed.Pt} : enc P = 1 ↔ P = Ed.Pt.zero := ⟨fun h => enc_inj (h.trans enc_zero.symm), fun h => by rw [h, enc_zero]⟩
theorem smB_eq {p : P4} {P : Ed.Pt} (h : Rq p P) : smB p = decide (enc (Ed.Pt.mul 8 P) = 1) := by
  unfold smB
  rw [(adN_rq h 3).enc, le_beq2 _ _ (lt_pow (enc_lt _)) (lt_pow one_lt)]
abbrev SaC (p : P4) (b : Bool) : Prop := ∀ W, Calls Try.prog 42 #[p.v] W fun e w' => e = .returned (.bool b) ∧ Kept [] W w'
theorem small_e {p : P4} {P : Ed.Pt} (h : Rq p P) : SaC p (decide (enc (Ed.Pt.mul 8 P) = 1)) := by
  have := fun W => psmall_any h.ok W
  rwa [smB_eq h] at this
theorem dec_e (P : Ed.Pt) : ∃ r, DeC (enc P) r 0 ∧ Rq r P := by
  have := dec_c (enc P)
  rw [dcE_yes _ (dec_full P)] at this
  exact ⟨_, this, (dec_enc P).q⟩
theorem dec_n {X : Nat} (h : dcOk X = false) : DeC X pz 50 := by
  have := dec_c X
  rwa [dcE_no _ h, dcQ_no _ h] at this
theorem dec2 : dcOk 2 = false := by
  have hn : dcN 2 = true := by rw [dcN_eq]; decide +kernel
  have hU : Rep (dcU 2) 3 := ⟨dcU_lim 2, by
    have := congrArg Ed.Fq.v (fq_dcU hn)
    rw [fq_v] at this
    rw [this]
    decide +kernel⟩
  have hV : Rep (dcV 2) (4 * Ed.Dn + 1) := ⟨dcV_lim 2, by
    have := congrArg Ed.Fq.v (fq_dcV hn)
    rw [fq_v] at this
    rw [this]
    unfold Ed.D
    decide +kernel⟩
  unfold dcOk
  rw [hU.ok hV, show okM 3 (4 * Ed.Dn + 1) = false from by decide +kernel, Bool.false_and, Bool.and_false]
theorem eBB : enc BB = 46316835694926478169428394003475163141307993866256225615783033603165251855960 := by decide +kernel
theorem getb_lit {w : World} {g : Nat} {bt : TypeId} {X i : Nat} {z : Int} (h : Blk w g bt (bv (le X 32)).toArray) (hi : i < 32) (e : ((byt X i : Nat) : Int) = z) : w.cell? ⟨g, i, none⟩ = some (.int .u8 z) := by rw [← e]; exact Blk.getb h hi
end Go.Proofs.Ytdbngnlpafcogaa

namespace Go.Proofs.Ytdbngnlpafcogaa
open Go.RowKit Go.Mem Go.Txt

theorem eql_run {l m : List UInt8} {b : Bool} (h : (l == m) = b) (h1 : l.length = 32) (h2 : m.length = 32) (W : World) : (Op.equalIn 10000 26 (ab l) (ab m)).run Try.prog W = .ok b W := by
  have := run_eqIn_ab arrB Try.underlying5 (by kernel_rfl) l m h1 h2 W
  rwa [h] at this
theorem exec_eqb {a : Act} {o : Oper} {u : World} {l m : List UInt8} {b : Bool} (x y : Operand) {r : TypeId} (ho : o.op = .binOp .eql 26 x y r) (hx : a.eval x = ab l) (hy : a.eval y = ab m) (h : (l == m) = b) (h1 : l.length = 32) (h2 : m.length = 32) : (execOp a.eval o).run Try.prog u = .ok (.value (.bool b)) u :=
  (exec_eql_ab arrB Try.underlying5 (by kernel_rfl) (by kernel_rfl) x y ho hx hy h1 h2).trans (by rw [h])
theorem exec_build1 {a : Act} {o : Oper} {u : World} {t : TypeId} {cs : Array Value} (i : Nat) (x : Operand) (ho : o.op = .build t #[(i, x)]) {v : Value} (hx : a.eval x = v) (h : Try.prog.built t [(i, v)] = some cs) : (execOp a.eval o).run Try.prog u = .ok (.value (.agg cs)) u := by
  unfold execOp
  simp only [ho, Sem.run_bind]
  rw [run_build u t (Array.map (fun x : Nat × Operand => (x.fst, a.eval x.snd)) #[(i, x)]) cs (by simpa [hx] using h)]
  simp
abbrev MsC (p : P4) (l : List UInt8) (r : P4) : Prop := ∀ W, Calls Try.prog 37 #[p.v, ab l] W fun e w' => e = .returned r.v ∧ Kept [] W w'
abbrev HsC (p : P4) (l : List UInt8) : Prop := ∀ W, Calls Try.prog 38 #[p.v] W fun e w' => e = .returned (ab l) ∧ Kept [] W w'
abbrev BosC (l : List UInt8) (p : P4) (m : List UInt8) (r : P4) : Prop := ∀ W, Calls Try.prog 46 #[ab l, p.v, ab m] W fun e w' => e = .returned r.v ∧ Kept [] W w'
abbrev DsC (l : List UInt8) (r : P4) (z : Int) : Prop := ∀ W, Calls Try.prog 41 #[ab l] W fun e w' => e = .returned (.tuple #[r.v, .int .i64 z]) ∧ Kept [] W w'
theorem leV_T {l : List UInt8} (h : l.length = 32) : leV l < T256 := by
  have := leV_lt2 l
  rw [h] at this
  rw [T256_pow]
  exact this
theorem le_of {l : List UInt8} (h : l.length = 32) : le (leV l) 32 = l := by
  have := le_leV l
  rwa [h] at this
theorem mul_s {p : P4} {P : Ed.Pt} (h : Rq p P) {l : List UInt8} (hl : l.length = 32) : ∃ r, MsC p l r ∧ Rq r (Ed.Pt.mul (leV l) P) := by
  obtain ⟨r, c, hr⟩ := mul_e h (leV_T hl)
  unfold MuC at c
  rw [le_of hl] at c
  exact ⟨r, c, hr⟩
theorem both_s {p : P4} {P : Ed.Pt} (h : Rq p P) {l m : List UInt8} (hl : l.length = 32) (hm : m.length = 32) : ∃ r, BosC l p m r ∧ Rq r (Ed.Pt.mul (leV l) BB + Ed.Pt.mul (leV m) P) := by
  obtain ⟨r, c, hr⟩ := both_e h (leV_T hl) (leV_T hm)
  unfold BoC at c
  rw [le_of hl, le_of hm] at c
  exact ⟨r, c, hr⟩
theorem hash_s {p : P4} {P Q : Ed.Pt} (h : Rq p P) (e : P = Q) : HsC p (le (enc Q) 32) := by rw [← e]; exact hash_e h
theorem hash_l {p : P4} {P Q : Ed.Pt} {l : List UInt8} (hl : l = le (enc Q) 32) (h : Rq p P) (e : P = Q) : HsC p l := by rw [hl]; exact hash_s h e
theorem hash_1 {p : P4} {P : Ed.Pt} {l : List UInt8} (hl : l = le 1 32) (h : Rq p P) (e : P = Ed.Pt.zero) : HsC p l := by
  rw [hl, ← enc_zero]
  exact hash_s h e
theorem dec_s {P Q : Ed.Pt} {l : List UInt8} (hl : l = le (enc Q) 32) (e : Q = P) : ∃ r, DsC l r 0 ∧ Rq r P := by
  subst e
  obtain ⟨r, c, hr⟩ := dec_e Q
  rw [hl]
  exact ⟨r, c, hr⟩
/-- A number's bytes that are written out. -/
theorem lit_s (b : UInt8) : ∃ l : List UInt8, l = le b.toNat 32 ∧ l.length = 32 ∧ leV l = b.toNat ∧ Try.prog.built 26 [(0, .int .u8 (b.toNat : Int))] = some (bv l).toArray := by
  obtain ⟨l, h1, h2, h3, h4⟩ := lit_bytes b
  exact ⟨l, h1.trans (lit_le b), h2, h3, h4⟩
theorem lit_1 : ∃ l : List UInt8, l = le 1 32 ∧ l.length = 32 ∧ leV l = 1 ∧ Try.prog.built 26 [(0, .int .u8 1)] = some (bv l).toArray := lit_s 1
theorem lit_2 : ∃ l : List UInt8, l = le 2 32 ∧ l.length = 32 ∧ leV l = 2 ∧ Try.prog.built 26 [(0, .int .u8 2)] = some (bv l).toArray := lit_s 2
theorem lit_8 : ∃ l : List UInt8, l = le 8 32 ∧ l.length = 32 ∧ leV l = 8 ∧ Try.prog.built 26 [(0, .int .u8 8)] = some (bv l).toArray := lit_s 8
theorem enters_pmul (xs : Array Value) (w : World) : (callFunc 37 xs).run Try.prog w = .ok (.enter 37 xs) w := enters_of (c := _) Try.func37 (by kernel_rfl) rfl xs w
theorem enters_phash (xs : Array Value) (w : World) : (callFunc 38 xs).run Try.prog w = .ok (.enter 38 xs) w := enters_of (c := _) Try.func38 (by kernel_rfl) rfl xs w
theorem enters_padd (xs : Array Value) (w : World) : (callFunc 82 xs).run Try.prog w = .ok (.enter 82 xs) w := enters_of (c := _) Try.func82 (by kernel_rfl) rfl xs w
theorem enters_pneg (xs : Array Value) (w : World) : (callFunc 48 xs).run Try.prog w = .ok (.enter 48 xs) w := enters_of (c := _) Try.func48 (by kernel_rfl) rfl xs w
theorem enters_pdec (xs : Array Value) (w : World) : (callFunc 41 xs).run Try.prog w = .ok (.enter 41 xs) w := enters_of (c := _) Try.func41 (by kernel_rfl) rfl xs w
theorem enters_psmall (xs : Array Value) (w : World) : (callFunc 42 xs).run Try.prog w = .ok (.enter 42 xs) w := enters_of (c := _) Try.func42 (by kernel_rfl) rfl xs w
theorem bsize {l : List UInt8} (h : l.length = 32) : (bv l).toArray.size = 32 := by simp [h]
end Go.Proofs.Ytdbngnlpafcogaa
