/-
  Field: what powers come to: the plain law.
-/
import Derived.Test.YthmpdhegodmjjaaFe15
namespace Go.Proofs.Ythmpdhegodmjjaa
open Go.RowKit Go.Mem Go.Txt

/-- Products, squares modulo p. -/
def mlM (x y : Nat) : Nat := x * y % PP
def sqM : Nat → Nat → Nat
  | 0, x => x
  | k + 1, x => mlM (sqM k x) (sqM k x)
theorem Rep.ml {F G : Nat → Nat} {x y : Nat} (h : Rep F x) (h2 : Rep G y) : Rep (mlF F G) (mlM x y) := ⟨(h.mul h2).lim, by have := (h.mul h2).val; unfold mlM; rw [Nat.mod_mod]; exact this⟩
theorem Rep.sq {F : Nat → Nat} {x : Nat} (h : Rep F x) : Rep (sqF F) (mlM x x) := h.ml h
theorem Rep.sn {F : Nat → Nat} {x : Nat} (h : Rep F x) : ∀ k, Rep (sqn k F) (sqM k x)
  | 0 => h
  | k + 1 => (Rep.sn h k).sq
/-- y is the power e of x. -/
def Pw (x e y : Nat) : Prop := y % PP = x ^ e % PP
theorem Pw.one (x : Nat) : Pw x 1 x := by unfold Pw; rw [Nat.pow_one]
theorem Pw.ml {x a b y z : Nat} (h : Pw x a y) (h2 : Pw x b z) : Pw x (a + b) (mlM y z) := by
  unfold Pw mlM at *
  rw [Nat.mod_mod, Nat.mul_mod, h, h2, ← Nat.mul_mod, Nat.pow_add]
theorem Pw.sn {x a y : Nat} (h : Pw x a y) : ∀ k, Pw x (a * 2 ^ k) (sqM k y)
  | 0 => by rw [Nat.pow_zero, Nat.mul_one]; exact h
  | k + 1 => by
    have := (Pw.sn h k).ml (Pw.sn h k)
    rwa [show a * 2 ^ k + a * 2 ^ k = a * 2 ^ (k + 1) from by rw [Nat.pow_succ, ← Nat.mul_assoc, Nat.mul_two]] at this
theorem Pw.to {x a b y : Nat} (h : Pw x a y) (e : a = b) : Pw x b y := e ▸ h

def m_two (x : Nat) : Nat := mlM x x
def m_qa (x : Nat) : Nat := sqM 2 (m_two x)
def m_nine (x : Nat) : Nat := mlM (m_qa x) x
def m_elev (x : Nat) : Nat := mlM (m_nine x) (m_two x)
def m_qb (x : Nat) : Nat := mlM (m_elev x) (m_elev x)
def m_n5 (x : Nat) : Nat := mlM (m_qb x) (m_nine x)
def m_qc (x : Nat) : Nat := sqM 5 (m_n5 x)
def m_n10 (x : Nat) : Nat := mlM (m_qc x) (m_n5 x)
def m_qd (x : Nat) : Nat := sqM 10 (m_n10 x)
def m_n20 (x : Nat) : Nat := mlM (m_qd x) (m_n10 x)
def m_qe (x : Nat) : Nat := sqM 20 (m_n20 x)
def m_qf (x : Nat) : Nat := mlM (m_qe x) (m_n20 x)
def m_qg (x : Nat) : Nat := sqM 10 (m_qf x)
def m_n50 (x : Nat) : Nat := mlM (m_qg x) (m_n10 x)
def m_qh (x : Nat) : Nat := sqM 50 (m_n50 x)
def m_n100 (x : Nat) : Nat := mlM (m_qh x) (m_n50 x)
def m_qi (x : Nat) : Nat := sqM 100 (m_n100 x)
def m_qj (x : Nat) : Nat := mlM (m_qi x) (m_n100 x)
def m_qk (x : Nat) : Nat := sqM 50 (m_qj x)
def m_nn (x : Nat) : Nat := mlM (m_qk x) (m_n50 x)
theorem rep_two {F : Nat → Nat} {x : Nat} (h : Rep F x) : Rep (o_two F) (m_two x) := Rep.sq h
theorem rep_qa {F : Nat → Nat} {x : Nat} (h : Rep F x) : Rep (o_qa F) (m_qa x) := Rep.sn (rep_two h) 2
theorem rep_nine {F : Nat → Nat} {x : Nat} (h : Rep F x) : Rep (o_nine F) (m_nine x) := Rep.ml (rep_qa h) h
theorem rep_elev {F : Nat → Nat} {x : Nat} (h : Rep F x) : Rep (o_elev F) (m_elev x) := Rep.ml (rep_nine h) (rep_two h)
theorem rep_qb {F : Nat → Nat} {x : Nat} (h : Rep F x) : Rep (o_qb F) (m_qb x) := Rep.sq (rep_elev h)
theorem rep_n5 {F : Nat → Nat} {x : Nat} (h : Rep F x) : Rep (o_n5 F) (m_n5 x) := Rep.ml (rep_qb h) (rep_nine h)
theorem rep_qc {F : Nat → Nat} {x : Nat} (h : Rep F x) : Rep (o_qc F) (m_qc x) := Rep.sn (rep_n5 h) 5
theorem rep_n10 {F : Nat → Nat} {x : Nat} (h : Rep F x) : Rep (o_n10 F) (m_n10 x) := Rep.ml (rep_qc h) (rep_n5 h)
theorem rep_qd {F : Nat → Nat} {x : Nat} (h : Rep F x) : Rep (o_qd F) (m_qd x) := Rep.sn (rep_n10 h) 10
theorem rep_n20 {F : Nat → Nat} {x : Nat} (h : Rep F x) : Rep (o_n20 F) (m_n20 x) := Rep.ml (rep_qd h) (rep_n10 h)
theorem rep_qe {F : Nat → Nat} {x : Nat} (h : Rep F x) : Rep (o_qe F) (m_qe x) := Rep.sn (rep_n20 h) 20
theorem rep_qf {F : Nat → Nat} {x : Nat} (h : Rep F x) : Rep (o_qf F) (m_qf x) := Rep.ml (rep_qe h) (rep_n20 h)
theorem rep_qg {F : Nat → Nat} {x : Nat} (h : Rep F x) : Rep (o_qg F) (m_qg x) := Rep.sn (rep_qf h) 10
theorem rep_n50 {F : Nat → Nat} {x : Nat} (h : Rep F x) : Rep (o_n50 F) (m_n50 x) := Rep.ml (rep_qg h) (rep_n10 h)
theorem rep_qh {F : Nat → Nat} {x : Nat} (h : Rep F x) : Rep (o_qh F) (m_qh x) := Rep.sn (rep_n50 h) 50
theorem rep_n100 {F : Nat → Nat} {x : Nat} (h : Rep F x) : Rep (o_n100 F) (m_n100 x) := Rep.ml (rep_qh h) (rep_n50 h)
theorem rep_qi {F : Nat → Nat} {x : Nat} (h : Rep F x) : Rep (o_qi F) (m_qi x) := Rep.sn (rep_n100 h) 100
theorem rep_qj {F : Nat → Nat} {x : Nat} (h : Rep F x) : Rep (o_qj F) (m_qj x) := Rep.ml (rep_qi h) (rep_n100 h)
theorem rep_qk {F : Nat → Nat} {x : Nat} (h : Rep F x) : Rep (o_qk F) (m_qk x) := Rep.sn (rep_qj h) 50
theorem rep_nn {F : Nat → Nat} {x : Nat} (h : Rep F x) : Rep (o_nn F) (m_nn x) := Rep.ml (rep_qk h) (rep_n50 h)
theorem pw_two (x : Nat) : Pw x 2 (m_two x) := (Pw.ml (Pw.one x) (Pw.one x)).to (by decide +kernel)
theorem pw_qa (x : Nat) : Pw x 8 (m_qa x) := (Pw.sn (pw_two x) 2).to (by decide +kernel)
theorem pw_nine (x : Nat) : Pw x 9 (m_nine x) := (Pw.ml (pw_qa x) (Pw.one x)).to (by decide +kernel)
theorem pw_elev (x : Nat) : Pw x 11 (m_elev x) := (Pw.ml (pw_nine x) (pw_two x)).to (by decide +kernel)
theorem pw_qb (x : Nat) : Pw x 22 (m_qb x) := (Pw.ml (pw_elev x) (pw_elev x)).to (by decide +kernel)
theorem pw_n5 (x : Nat) : Pw x 31 (m_n5 x) := (Pw.ml (pw_qb x) (pw_nine x)).to (by decide +kernel)
theorem pw_qc (x : Nat) : Pw x 992 (m_qc x) := (Pw.sn (pw_n5 x) 5).to (by decide +kernel)
theorem pw_n10 (x : Nat) : Pw x 1023 (m_n10 x) := (Pw.ml (pw_qc x) (pw_n5 x)).to (by decide +kernel)
theorem pw_qd (x : Nat) : Pw x 1047552 (m_qd x) := (Pw.sn (pw_n10 x) 10).to (by decide +kernel)
theorem pw_n20 (x : Nat) : Pw x 1048575 (m_n20 x) := (Pw.ml (pw_qd x) (pw_n10 x)).to (by decide +kernel)
theorem pw_qe (x : Nat) : Pw x 1099510579200 (m_qe x) := (Pw.sn (pw_n20 x) 20).to (by decide +kernel)
theorem pw_qf (x : Nat) : Pw x 1099511627775 (m_qf x) := (Pw.ml (pw_qe x) (pw_n20 x)).to (by decide +kernel)
theorem pw_qg (x : Nat) : Pw x 1125899906841600 (m_qg x) := (Pw.sn (pw_qf x) 10).to (by decide +kernel)
theorem pw_n50 (x : Nat) : Pw x 1125899906842623 (m_n50 x) := (Pw.ml (pw_qg x) (pw_n10 x)).to (by decide +kernel)
theorem pw_qh (x : Nat) : Pw x 1267650600228228275596796362752 (m_qh x) := (Pw.sn (pw_n50 x) 50).to (by decide +kernel)
theorem pw_n100 (x : Nat) : Pw x 1267650600228229401496703205375 (m_n100 x) := (Pw.ml (pw_qh x) (pw_n50 x)).to (by decide +kernel)
theorem pw_qi (x : Nat) : Pw x 1606938044258990275541962092339894951921974764381296132096000 (m_qi x) := (Pw.sn (pw_n100 x) 100).to (by decide +kernel)
theorem pw_qj (x : Nat) : Pw x 1606938044258990275541962092341162602522202993782792835301375 (m_qj x) := (Pw.ml (pw_qi x) (pw_n100 x)).to (by decide +kernel)
theorem pw_qk (x : Nat) : Pw x 1809251394333065553493296640760748560207343510400633813116523624223735808000 (m_qk x) := (Pw.sn (pw_qj x) 50).to (by decide +kernel)
theorem pw_nn (x : Nat) : Pw x 1809251394333065553493296640760748560207343510400633813116524750123642650623 (m_nn x) := (Pw.ml (pw_qk x) (pw_n50 x)).to (by decide +kernel)
/-- An inverse. -/
def invF (F : Nat → Nat) : Nat → Nat := mlF (sqn 5 (o_nn F)) (o_elev F)
def invM (x : Nat) : Nat := mlM (sqM 5 (m_nn x)) (m_elev x)
theorem invF_lim {F : Nat → Nat} (h : Lim F) : Lim (invF F) := mlF_lim (sqn_lim (o_nn_lim h) 5) (o_elev_lim h)
theorem Rep.inv {F : Nat → Nat} {x : Nat} (h : Rep F x) : Rep (invF F) (invM x) := ((rep_nn h).sn 5).ml (rep_elev h)
theorem invM_pw (x : Nat) : Pw x 57896044618658097711785492504343953926634992332820282019728792003956564819947 (invM x) := (((pw_nn x).sn 5).ml (pw_elev x)).to (by decide +kernel)
/-- The first try for a root: the power (p + 3) / 8. -/
def tryF (F : Nat → Nat) : Nat → Nat := mlF (sqn 2 (o_nn F)) (sqF F)
def tryM (x : Nat) : Nat := mlM (sqM 2 (m_nn x)) (mlM x x)
theorem tryF_lim {F : Nat → Nat} (h : Lim F) : Lim (tryF F) := mlF_lim (sqn_lim (o_nn_lim h) 2) (sqF_lim h)
theorem Rep.try {F : Nat → Nat} {x : Nat} (h : Rep F x) : Rep (tryF F) (tryM x) := ((rep_nn h).sn 2).ml h.sq
theorem tryM_pw (x : Nat) : Pw x 7237005577332262213973186563042994240829374041602535252466099000494570602494 (tryM x) := (((pw_nn x).sn 2).ml ((Pw.one x).ml (Pw.one x))).to (by decide +kernel)
end Go.Proofs.Ythmpdhegodmjjaa
