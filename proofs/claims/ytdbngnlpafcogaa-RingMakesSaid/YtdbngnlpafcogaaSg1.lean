/-
  The sign: parts put behind others, the number of a digest.
-/
import Derived.Test.YtdbngnlpafcogaaSzr
import Derived.Test.YtdbngnlpafcogaaSq6
namespace Go.Proofs.Ytdbngnlpafcogaa
open Go.RowKit Go.Mem Go.Txt

theorem slicesT : SliceT Try.prog 94 23 1 24 (.slice none 0 0) := ⟨Try.underlying94, by kernel_rfl, rfl, by omega⟩
theorem one_sl (l : List (Value × List UInt8)) (w : World) (h : ∀ x ∈ l, Rd w 1 x.1 x.2.length (bv x.2)) : ∀ u ∈ l.map (·.1), u.oneCell' = true := by
  intro u hu
  obtain ⟨x, hx, rfl⟩ := List.mem_map.1 hu
  obtain ⟨A, c, e, _⟩ := h x hx
  rw [e]
  rfl
/-- Parts put behind others that were made since. -/
theorem with_any (pv av : Value) (ps qs : List (Value × List UInt8)) (w : World) (hp : Parts w pv ps) (ha : Ow w 23 1 av qs.length (qs.map (·.1))) (hi : ∀ x ∈ qs, Rd w 1 x.1 x.2.length (bv x.2)) (hn : ps.length ≤ 1000000000) (hm : qs.length ≤ 1000)
    (hpf : ∀ x ∈ ps, 0 < x.2.length → ∀ k, x.1.ownBlock = some k → av.ownBlock ≠ some k) (haf : ∀ x ∈ qs, 0 < x.2.length → ∀ k, x.1.ownBlock = some k → av.ownBlock ≠ some k) :
    Calls Try.prog 45 #[pv, av] w fun e w' => ∃ v, e = .returned v ∧ Parts w' v (qs ++ ps) ∧ Kept av.ownBlock.toList w w' := by
  have A := Lib.hid ha
  have P := Lib.hid hp
  obtain ⟨pA, pc, rfl, _, _, _⟩ := hp.outer
  obtain ⟨aA, ac, rfl, _⟩ := ha.shape
  clear hp ha
  go_enter Try.func45, Try.ntmps45
  go_wp2_with (first
    | (at_builtin
       refine wpl_app (n := qs.length) (m := ps.length) slicesT rfl (.tmp 5) (.tmp 6) rfl rfl A.out rfl P.out.outer (one_sl ps w P.out.inner) (by omega) (by omega) ?_
       intro v' w1 o1 k1 f1
       have O1 := Lib.hid o1
       have K1 := Lib.hid k1
       clear o1 k1 f1))
  go_ret
  refine ⟨_, rfl, ⟨by rw [List.length_append, List.map_append]; exact Rd.of_ow O1.out, fun x hx => ?_⟩, K1.out⟩
  rcases List.mem_append.1 hx with hx | hx
  · exact (hi x hx).kept K1.out (fun hn k hk hm => haf x hx hn k hk (mem_own hm))
  · exact (P.out.inner x hx).kept K1.out (fun hn k hk hm => hpf x hx hn k hk (mem_own hm))
/-- The number of a digest. -/
def numQ (m : List UInt8) : Nat := Z.leV (Q.sha m) % Z.LL
theorem snumber_any (pv : Value) (ps : List (Value × List UInt8)) (w : World) (hp : Parts w pv ps) (hn : ps.length ≤ 9223372036854775807) (hl : (joined ps).length ≤ 140737488353000) :
    Calls Try.prog 44 #[pv] w fun e w' => e = .returned (Z.w4 (numQ (joined ps))) ∧ Kept [] w w' := by
  have cs := Lib.hid (fun u (h : Parts u pv ps) => Q.sum_any pv ps u h hn hl)
  have cw := Lib.hid (Z.wide_any (Q.sha (joined ps)) (Q.sha_len _))
  have P := Lib.hid hp
  have hq := Lib.hid (show Z.leV (Q.sha (joined ps)) % Z.LL = numQ (joined ps) from rfl)
  generalize Q.sha (joined ps) = s at *
  clear hp
  go_enter Try.func44, Try.ntmps44
  go_wp2_with (first
    | ((with_reducible refine wpl_at 2 ?_); (refine wpl_new (o := ⟨some 2, _, _, _, _, _⟩) rfl rfl Z.zeroSc ?_); intro g2 w2 m2; have M2 := Lib.hid m2; clear m2)
    | (go_at_call 61; (with_reducible refine (cs.out _ (P.out.kept0 M2.out.kept)).mono ?_); rintro e w3 ⟨rfl, k3⟩; have K3 := Lib.hid k3; clear k3)
    | (go_at_call 85; (with_reducible refine (cw.out _).mono ?_); rintro e w4 ⟨rfl, k4⟩; rw [hq.out]; have K4 := Lib.hid k4; clear k4)
    | ((with_reducible refine wpl_sat (.tmp 2) (.tmp 5) ?_); refine wpl_store_row (o := ⟨none, Op.store 99 (.tmp 2) (.tmp 5), _, _, _, _⟩) Z.structSc rfl (.tmp 2) (.tmp 5) rfl rfl rfl ((M2.out.blk.kept K3.out (by simp)).kept K4.out (by simp)) rfl rfl (one_uva _) ?_; intro w5 b5 k5; have B5 := Lib.hid b5; have K5 := Lib.hid k5; clear b5 k5))
  refine ret_row Z.structSc rfl rfl B5.out rfl rfl ⟨rfl, ?_⟩
  exact ((M2.out.kept.then0 K3.out).then0 K4.out).then1 K5.out M2.out.le
end Go.Proofs.Ytdbngnlpafcogaa
