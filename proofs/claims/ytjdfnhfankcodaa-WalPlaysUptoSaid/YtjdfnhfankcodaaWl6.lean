/-
  The log: its rows, its length; lists of bytes compared.
-/
import Derived.Test.YtjdfnhfankcodaaWl5
namespace Go.Proofs.Ytjdfnhfankcodaa
open Go.RowKit Go.Mem Go.Txt

theorem llen_any (b l : Nat) (rv : Value) (rs : List (Value × List UInt8)) (dn : Bool) (w : World) (h : LgIs w b l rv rs dn) :
    Calls Try.prog 19 #[.pointer (some ⟨l, 0, none⟩)] w fun e w' => e = .returned (.int .i64 rs.length) ∧ w = w' := by
  obtain ⟨A, c, rfl, _⟩ := h.own.shape
  have q1 : w.cell? ⟨l, 1, none⟩ = some (.slice A rs.length c) := by rw [h.blk.cell]; rfl
  go_enter Try.func19, Try.ntmps19
  go_wp2_with fail
  go_ret
  exact ⟨rfl, rfl⟩
/-- Rows made since. -/
structure RwM (w : World) (v : Value) (ps : List (Value × List UInt8)) (u : World) : Prop where
  k : Kept [] w u
  ow : Ow u 22 1 v ps.length (ps.map (·.1))
  new : ∀ k, v.ownBlock = some k → w.heap.size ≤ k
  inner : ∀ x ∈ ps, Ow u 5 1 x.1 x.2.length (bv x.2)
  xnew : ∀ x ∈ ps, ∀ k, x.1.ownBlock = some k → w.heap.size ≤ k
theorem RwM.kept {w u u' : World} {v : Value} {ps : List (Value × List UInt8)} (h : RwM w v ps u) (hk : Kept [] u u') : RwM w v ps u' := ⟨h.k.then0 hk, h.ow.kept0 hk, h.new, fun x hx => (h.inner x hx).kept0 hk, h.xnew⟩
theorem RwM.parts {w u : World} {v : Value} {ps : List (Value × List UInt8)} (h : RwM w v ps u) : Parts u v ps := ⟨Rd.of_ow h.ow, fun x hx => Rd.of_ow (h.inner x hx)⟩
theorem RwM.app {w u u' : World} {v v' cv : Value} {ps : List (Value × List UInt8)} {body : List UInt8} (h : RwM w v ps u) (ho : Ow u' 22 1 v' (ps.length + 1) (ps.map (·.1) ++ [cv])) (hk : Kept v.ownBlock.toList u u') (hf : v'.ownBlock = v.ownBlock ∨ v'.ownBlock = some u.heap.size) (hc : Ow u 5 1 cv body.length (bv body)) (hn : ∀ k, cv.ownBlock = some k → w.heap.size ≤ k) : RwM w v' (ps ++ [(cv, body)]) u' := by
  have row : ∀ {x : Value} {ys : List UInt8}, Ow u 5 1 x ys.length (bv ys) → Ow u' 5 1 x ys.length (bv ys) := fun {x ys} hx => hx.kept hk (fun k hk1 hm => hx.ne_ h.ow (by decide) k hk1 (mem_own hm))
  refine ⟨Kept.fresh h.k hk (fun k hm => h.new k (mem_own hm)), by simpa using ho, fun k hk1 => ?_, fun x hx => ?_, fun x hx => ?_⟩
  · rcases hf with e | e
    · exact h.new k (by rw [← e]; exact hk1)
    · rw [e] at hk1; cases hk1; exact h.k.size
  · rcases List.mem_append.1 hx with hx | hx
    · exact row (h.inner x hx)
    · obtain rfl := List.mem_singleton.1 hx
      exact row hc
  · rcases List.mem_append.1 hx with hx | hx
    · exact h.xnew x hx
    · obtain rfl := List.mem_singleton.1 hx
      exact hn
set_option maxHeartbeats 1600000 in
theorem rows_any (b l : Nat) (rv : Value) (rs : List (Value × List UInt8)) (dn : Bool) (w : World) (h : LgIs w b l rv rs dn) (hn : rs.length ≤ 1000000000) (hb : ∀ x ∈ rs, x.2.length ≤ 140737488355328) :
    Calls Try.prog 13 #[.pointer (some ⟨l, 0, none⟩)] w fun e w' => ∃ v ps, e = .returned v ∧ ps.map (·.2) = rs.map (·.2) ∧ RwM w v ps w' := by
  have L := Lib.hid h
  have hbH := Lib.hid hb
  obtain ⟨A, c, rfl, _⟩ := h.own.shape
  have q1 : w.cell? ⟨l, 1, none⟩ = some (.slice A rs.length c) := by rw [h.blk.cell]; rfl
  clear h hb
  go_enter Try.func13, Try.ntmps13
  go_wp2_with fail
  clear q1
  go_loopg [3, 13] rs.length (fun fu o i wk => ∃ (k : Nat) (B : Option Addr) (d : Nat) (ps : List (Value × List UInt8)), k ≤ rs.length ∧ fu + k = rs.length ∧ i = .int .i64 (k : Int) ∧ o = .slice B k d ∧ Hid (ps.map (·.2) = (rs.map (·.2)).take k) ∧ Hid (ps.length = k) ∧ Hid (RwM w (.slice B k d) ps wk))
  case atStart => exact ⟨0, none, 0, [], by omega, by omega, rfl, rfl, Lib.hid rfl, Lib.hid rfl, Lib.hid ⟨Kept.refl _ _, Ow.nil _ _ _, by simp [Value.ownBlock], by simp, by simp⟩⟩
  case round =>
    obtain ⟨k, B, d, ps, hk, hfu, rfl, rfl, hm, hl, M⟩ := hrel
    by_cases hlt : k < rs.length
    · obtain ⟨p1, p2, hpk⟩ : ∃ p1 p2, rs[k] = (p1, p2) := ⟨_, _, rfl⟩
      have L' := L.out.kept0 M.out.k
      obtain ⟨pb, po, pc2, heq, _, hcell⟩ := (Rd.of_ow L'.own).at_ (by omega)
      cases heq
      have hcl := hcell k p1 (by simp [hlt, hpk])
      have hin := L'.inner (p1, p2) (hpk ▸ List.getElem_mem _)
      have hbg := hbH.out (p1, p2) (hpk ▸ List.getElem_mem _)
      dsimp only at hin hbg
      obtain ⟨Bp, cp, rfl, _⟩ := hin.shape
      have R2 := Lib.hid (Rd.of_ow hin)
      have ccl := Lib.hid (fun u (h : Rd u 1 (.slice Bp p2.length cp) p2.length (bv p2)) => Dk.clone_any (.slice Bp p2.length cp) p2 u h hbg)
      have hpk2 := Lib.hid hpk
      clear L' hcell hin hpk hbg
      go_wp2_with (first
        | (go_at_call 27; (with_reducible refine (ccl.out _ R2.out).mono ?_); rintro e w11 ⟨v11, rfl, o11, k11, n11⟩
           obtain ⟨A11, c11, rfl, _⟩ := Rd.of_own o11
           have O11 := Lib.hid (show Ow w11 5 1 (.slice A11 p2.length c11) p2.length (bv p2) from Ow.of_own o11)
           have N11 := Lib.hid (show ∀ k, (Value.slice A11 p2.length c11).ownBlock = some k → w.heap.size ≤ k from fun k' hk' => by
             have hsz1 := M.out.k.size
             rcases n11 with e | ⟨g, e, hg⟩
             · rw [e] at hk'; cases hk'
             · rw [e] at hk'; cases hk'
               omega)
           replace M := Lib.hid (M.out.kept k11)
           clear o11 k11 n11)
        | ((with_reducible refine wpl_at 20 ?_); (refine wpl_bslice1 (o := ⟨some 20, _, _, _, _, _⟩) (v0 := .slice A11 p2.length c11) (cells := #[.slice A11 p2.length c11]) rfl slicesT rfl rfl (by decide) rfl rfl ?_); intro g5 w5 m5
           have b5 := Lib.hid (show Rd w5 1 (.slice (some ⟨g5, 0, none⟩) 1 1) 1 [.slice A11 p2.length c11] from ⟨_, _, rfl, rfl, by omega, fun _ => ⟨g5, 0, rfl, fun j u hu => by rw [m5.blk.cell]; simpa using hu⟩⟩)
           replace M := Lib.hid (M.out.kept m5.kept)
           replace O11 := Lib.hid (O11.out.kept0 m5.kept)
           clear m5)
        | (at_builtin
           refine wpl_app (n := k) (m := 1) slicesT rfl (.tmp 17) (.tmp 20) rfl rfl (by have := M.out.ow; rw [hl.out] at this; exact this) rfl b5.out (by simp [Value.oneCell']) (by omega) (by omega) ?_
           intro v' w6 o6 k6 f6
           obtain ⟨A', c', hv', hlc'⟩ := o6.shape
           subst hv'
           have M6 := Lib.hid (M.out.app (by rw [hl.out]; exact o6) k6 f6 O11.out N11.out)
           clear o6 k6 f6 M))
      go_roundg (rs.length - (k + 1))
      case measure => omega
      case rel =>
        refine ⟨k + 1, A', c', ps ++ [(.slice A11 p2.length c11, p2)], by omega, by omega, by go_num, rfl, Lib.hid ?_, Lib.hid (by rw [List.length_append, hl.out]; rfl), Lib.hid M6.out⟩
        rw [List.map_append, hm.out, List.take_succ_eq_append_getElem (by rw [List.length_map]; omega), List.getElem_map, hpk2.out]
        rfl
    · obtain rfl : k = rs.length := by omega
      have hm3 := Lib.hid (show ps.map (·.2) = rs.map (·.2) from by rw [hm.out, List.take_of_length_le (by rw [List.length_map]; omega)])
      go_wp2_with fail
      go_ret
      exact ⟨_, rfl, ps, hm3.out, M.out⟩
set_option maxHeartbeats 1600000 in
theorem same_true (a b : Value) (la lb : List (Value × List UInt8)) (w : World) (ha : Parts w a la) (hb : Parts w b lb) (hab : la.map (·.2) = lb.map (·.2)) (hn : la.length ≤ 9223372036854775807) :
    Calls Try.prog 12 #[a, b] w fun e w' => e = .returned (.bool true) ∧ Kept [] w w' := by
  have hlen : la.length = lb.length := by have := congrArg List.length hab; simpa using this
  obtain ⟨A, c, rfl, _, _, hxa⟩ := ha.outer
  obtain ⟨B, d, rfl, _, _, hxb⟩ := hb.outer
  obtain ⟨n, hna⟩ : ∃ n, la.length = n := ⟨_, rfl⟩
  have hnb : lb.length = n := by omega
  rw [hna, hnb]
  rw [hna] at hxa hn
  rw [hnb] at hxb
  have PA := Lib.hid ha.inner
  have PB := Lib.hid hb.inner
  have hxa2 := Lib.hid hxa
  have hxb2 := Lib.hid hxb
  have hab2 := Lib.hid hab
  have hna2 := Lib.hid hna
  have hnb2 := Lib.hid hnb
  clear ha hb hxa hxb hab hlen hna hnb
  go_enter Try.func12, Try.ntmps12
  go_wp2_with fail
  go_loopg [13] n (fun fu i wk => ∃ k : Nat, k ≤ n ∧ fu + k = n ∧ i = .int .i64 (k : Int) ∧ Hid (Kept [] w wk))
  case atStart => exact ⟨0, by omega, by omega, rfl, Lib.hid (Kept.refl _ _)⟩
  case round =>
    obtain ⟨k, hk, hfu, rfl, K⟩ := hrel
    by_cases hlt : k < n
    · obtain ⟨pb, po, rfl, hca⟩ := hxa2.out (by omega)
      obtain ⟨qb, qo, rfl, hcb⟩ := hxb2.out (by omega)
      have hka : k < la.length := by rw [hna2.out]; exact hlt
      have hkb : k < lb.length := by rw [hnb2.out]; exact hlt
      have he : la[k].2 = lb[k].2 := by
        have : (la.map (·.2))[k]'(by simpa using hka) = (lb.map (·.2))[k]'(by simpa using hkb) := by simp only [hab2.out]
        simpa using this
      have h1 := K.out.cell (hca k la[k].1 (by simp [hka])) (by simp)
      have h2 := K.out.cell (hcb k lb[k].1 (by simp [hkb])) (by simp)
      have r1 := (PA.out _ (List.getElem_mem hka)).kept0 K.out
      have r2 := (PB.out _ (List.getElem_mem hkb)).kept0 K.out
      rw [he] at r1
      generalize lb[k].2 = y at *
      generalize la[k].1 = v1 at *
      generalize lb[k].1 = v2 at *
      have R1 := Lib.hid r1
      have R2 := Lib.hid r2
      obtain ⟨A1, c1, rfl, _⟩ := r1
      obtain ⟨A2, c2, rfl, _⟩ := r2
      have e1 := mkS_eq y
      clear hka hkb he
      go_wp2_with fail
      refine Txt.wp_text (by kernel_rfl) (by kernel_rfl) ?_
      go_wp2_with (first
        | ((with_reducible refine wpl_at 20 ?_); refine wpl_toS (o := ⟨some 20, _, _, _, _, _⟩) Try.underlying22 Try.underlying5 Try.underlying9 rfl (.tmp 19) rfl rfl R1.out.drew ?_)
        | ((with_reducible refine wpl_at 25 ?_); refine wpl_toS (o := ⟨some 25, _, _, _, _, _⟩) Try.underlying22 Try.underlying5 Try.underlying9 rfl (.tmp 24) rfl rfl R2.out.drew ?_))
      refine ⟨rfl, by kernel_rfl, ?_⟩
      go_wp2_with fail
      go_roundg (n - (k + 1))
      case measure => omega
      case rel => exact ⟨k + 1, by omega, by omega, by go_num, Lib.hid K.out.drew⟩
    · obtain rfl : k = n := by omega
      go_wp2_with fail
      go_ret
      exact ⟨rfl, K.out⟩
end Go.Proofs.Ytjdfnhfankcodaa
