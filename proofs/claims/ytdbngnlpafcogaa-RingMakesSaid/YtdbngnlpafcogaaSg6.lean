/-
  The sign: which signatures Verify says are right; that Sign's are.
-/
import Derived.Test.YtdbngnlpafcogaaSg5
import Derived.Test.YtdbngnlpafcogaaPrl
namespace Go.Proofs.Ytdbngnlpafcogaa
open Go.RowKit Go.Mem Go.Txt

theorem zleV : ∀ l : List UInt8, Z.leV l = leV l
  | [] => rfl
  | a :: l => by rw [Z.leV, leV, zleV l]
theorem zle (x n : Nat) : Z.le x n = le x n := rfl
theorem zLL : Z.LL = LL := rfl
/-- So many of the base point are nothing just for the order's multiples. -/
theorem ord_B {n : Nat} (h : Ed.Pt.mul n BB = Ed.Pt.zero) : LL ∣ n := by
  refine Classical.byContradiction fun hn => ?_
  have hm : n % LL ≠ 0 := fun e => hn (Nat.dvd_of_mod_eq_zero e)
  have hf := Nt.Pr.fermat (p := LL) pr_LL hm
  have h1 : Ed.Pt.mul (n * n ^ (LL - 1 - 1)) BB = Ed.Pt.zero := by rw [Ed.Pt.mul_mul, h, Ed.Pt.mul_zero]
  have h2 : 2 < LL := by decide +kernel
  have e2 : n * n ^ (LL - 1 - 1) = n ^ (LL - 1) := by
    rw [Nat.mul_comm, ← Nat.pow_succ]
    exact congrArg (n ^ ·) (by omega)
  rw [e2, Ed.Pt.mul_mod BB order_B, hf] at h1
  exact BB_ne h1
theorem mul_inj {m n : Nat} (h : Ed.Pt.mul m BB = Ed.Pt.mul n BB) : m % LL = n % LL := by
  have hp : 0 < LL := by decide +kernel
  have hm := Nat.mod_lt m hp
  have hn := Nat.mod_lt n hp
  rw [Ed.Pt.mul_mod BB order_B m, Ed.Pt.mul_mod BB order_B n] at h
  generalize m % LL = a at *
  generalize n % LL = b at *
  have h2 : Ed.Pt.mul (a + (LL - b)) BB = Ed.Pt.zero := by rw [Ed.Pt.mul_add, h, ← Ed.Pt.mul_add, show b + (LL - b) = LL from by omega, order_B]
  obtain ⟨k, hk⟩ := ord_B h2
  have h3 : k = 1 := by
    rcases Nat.lt_trichotomy k 1 with e | e | e
    · obtain rfl : k = 0 := by omega
      rw [Nat.mul_zero] at hk
      omega
    · exact e
    · have := Nat.mul_le_mul_left LL (show 2 ≤ k from e)
      omega
  rw [h3, Nat.mul_one] at hk
  omega
theorem dec_nil {x : List UInt8} (nx : x.length = 32) (h : ∀ P, enc P ≠ leV x) : DsC x pz 50 := by
  have hk : dcOk (leV x) = false := by
    cases hc : dcOk (leV x) with
    | false => rfl
    | true =>
      obtain ⟨P, _, e⟩ := dec_sound (leV_T nx) hc
      exact absurd e (h P)
  have := dec_n hk
  unfold DeC at this
  rwa [le_of nx] at this
theorem le_enc_inj {P Q : Ed.Pt} (h : le (enc P) 32 = le (enc Q) 32) : P = Q := by
  have := congrArg leV h
  rw [leV_le, leV_le, Nat.mod_eq_of_lt (lt_pow (enc_lt _)), Nat.mod_eq_of_lt (lt_pow (enc_lt _))] at this
  exact enc_inj this
/-- What makes a signature right: its key's point is no small one, its number is below the order, its equation holds. -/
structure OkS (key SG m : List UInt8) (P : Ed.Pt) : Prop where
  kb : le (enc P) 32 = key
  big : Ed.Pt.mul 8 P ≠ Ed.Pt.zero
  lt : leV (SG.drop 32) < LL
  eq : le (enc (Ed.Pt.mul (leV (SG.drop 32)) BB + Ed.Pt.mul (numQ (SG.take 32 ++ (key ++ m))) P.neg)) 32 = SG.take 32
open Classical in
noncomputable def okV (key SG m : List UInt8) : Bool := decide (∃ P, OkS key SG m P)
open Classical in
theorem okV_true {key SG m : List UInt8} {P : Ed.Pt} (h : OkS key SG m P) : okV key SG m = true := decide_eq_true ⟨P, h⟩
open Classical in
theorem okV_false {key SG m : List UInt8} (h : ∀ P, ¬ OkS key SG m P) : okV key SG m = false := decide_eq_false fun ⟨P, hp⟩ => h P hp
open Classical in
theorem okV_iff {key SG m : List UInt8} {P : Ed.Pt} (hk : le (enc P) 32 = key) : okV key SG m = true ↔ OkS key SG m P := by
  refine ⟨fun h => ?_, okV_true⟩
  obtain ⟨Q, hq⟩ := of_decide_eq_true h
  rw [le_enc_inj (hk.trans hq.kb.symm)]
  exact hq
theorem numQ_T (m : List UInt8) : leV (le (numQ m) 32) = numQ m := by
  rw [leV_le, Nat.mod_eq_of_lt (Nat.lt_trans (numQ_lt m) (show Z.LL < 2 ^ (8 * 32) by decide +kernel))]
/-- Verify of any bytes. -/
theorem verify_any (key SG : List UInt8) (hk : key.length = 32) (hg : SG.length = 64) (pv : Value) (ps : List (Value × List UInt8)) (m : List UInt8) (w : World) (hp : Parts w pv ps) (hj : joined ps = m) (hn : ps.length ≤ 1000000000) (hm : m.length ≤ 140737488352000) :
    Calls Try.prog 13 #[ab key, ab SG, pv] w fun e w' => e = .returned (.bool (okV key SG m)) ∧ Kept [] w w' := by
  have hR : (SG.take 32).length = 32 := by simp [hg]
  have hT : (SG.drop 32).length = 32 := by simp [hg]
  by_cases hex : ∃ P, le (enc P) 32 = key
  · obtain ⟨P, hP⟩ := hex
    obtain ⟨p, cd, hp2⟩ := dec_s hP.symm (P := P) rfl
    have cs := small_e hp2
    by_cases h8 : Ed.Pt.mul 8 P = Ed.Pt.zero
    · rw [decide_eq_true (enc_one.2 h8)] at cs
      have e : okV key SG m = false := okV_false fun Q h => h.big (by rw [le_enc_inj (h.kb.trans hP.symm)]; exact h8)
      rw [e]
      exact ver_small hk hg rfl pv w cd cs
    · rw [decide_eq_false (fun e => h8 (enc_one.1 e))] at cs
      have cnw := fun u => Z.new_any (SG.drop 32) hT u
      have hz : Z.okB (Z.leV (SG.drop 32)) = decide (leV (SG.drop 32) < LL) := by rw [zleV]; rfl
      by_cases hs : leV (SG.drop 32) < LL
      · rw [hz, decide_eq_true hs, show Z.nw (Z.leV (SG.drop 32)) = leV (SG.drop 32) from by rw [zleV]; exact if_pos hs] at cnw
        obtain ⟨q, cq, hq⟩ := neg_e hp2
        obtain ⟨r, cr, hr⟩ := both_s hq (l := SG.drop 32) (m := le (numQ (SG.take 32 ++ (key ++ m))) 32) hT (le_len _ _)
        rw [numQ_T] at hr
        have hb : (le (enc (Ed.Pt.mul (leV (SG.drop 32)) BB + Ed.Pt.mul (numQ (SG.take 32 ++ (key ++ m))) P.neg)) 32 == SG.take 32) = okV key SG m := by
          rw [Bool.eq_iff_iff, okV_iff hP, beq_iff_eq]
          exact ⟨fun h => ⟨hP, h8, hs, h⟩, fun h => h.eq⟩
        refine ver_full hk hg rfl rfl hR hT (le_len _ _) pv ps w hp hn cd cs cnw (h := numQ (SG.take 32 ++ (key ++ m))) ?_ (SB := SG.drop 32) ?_ (KB := le (numQ (SG.take 32 ++ (key ++ m))) 32) (fun u => Z.hash_any _ u) cq cr (hash_s hr rfl) hb
        · intro u v z1 z2 hz
          exact num_c v _ _ u hz (by rw [← hj]; rfl) (by simp; omega) (by simp [hk, hg]; omega)
        · intro u
          have := Z.hash_any (leV (SG.drop 32)) u
          rwa [zle, le_of hT] at this
      · rw [hz, decide_eq_false hs] at cnw
        have e : okV key SG m = false := okV_false fun Q h => hs h.lt
        rw [e]
        exact ver_big hk hg rfl hT pv w cd cs cnw
  · have e : okV key SG m = false := okV_false fun Q h => hex ⟨Q, h.kb⟩
    rw [e]
    exact ver_no hk pv w (dec_nil hk fun P hP => hex ⟨P, by rw [hP, le_of hk]⟩)
end Go.Proofs.Ytdbngnlpafcogaa
