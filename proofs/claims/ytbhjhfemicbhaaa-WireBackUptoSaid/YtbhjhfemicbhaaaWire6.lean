/-
  The wire: one form alone (WireOne), the walk.
-/
import Derived.Test.YtbhjhfemicbhaaaWire5
namespace Go.Proofs.Ytbhjhfemicbhaaa
open Go.RowKit Go.Mem

theorem New.next {w w1 w2 : World} {v v' : Value} {xs ys : List UInt8} (h : New w w1 v xs) (h2 : New w1 w2 v' ys) : New w w2 v' ys := by
  refine ⟨h2.ow, h.kept.then0 h2.kept, ?_⟩
  rcases h2.near with h3 | ⟨g, h3, hg⟩
  · exact .inl h3
  · exact .inr ⟨g, h3, by have := h.kept.size; omega⟩
theorem New.then0 {w w1 w2 : World} {v : Value} {xs : List UInt8} (h : New w w1 v xs) (hk : Kept [] w1 w2) : New w w2 v xs := ⟨h.ow.kept0 hk, h.kept.then0 hk, h.near⟩
theorem New.nil (w : World) : New w w (.slice none 0 0) [] := ⟨Ow.nil _ _ _, Kept.refl _ _, .inl rfl⟩

set_option maxRecDepth 100000 in
set_option maxHeartbeats 2000000 in
theorem one_walk (av bv0 : Value) (ps qs : List (Value × List UInt8)) (w : World) (ha : Parts w av ps) (hb : Parts w bv0 qs) (la : (cat (bytesOf ps)).length ≤ 140737488355320) (lb : (cat (bytesOf qs)).length ≤ 140737488355320) (na : ps.length ≤ 9223372036854775807) (nb : qs.length ≤ 9223372036854775807) :
    Calls Try.prog 3 #[av, bv0] w fun e w' => e = .returned (.bool true) ∧ Kept [] w w' := by
  have hA := Lib.hid ha
  have hB := Lib.hid hb
  have hla := Lib.hid la
  have hlb := Lib.hid lb
  have hbl : ∀ l : List (Value × List UInt8), ∀ x ∈ bytesOf l, x.length ≤ (cat (bytesOf l)).length := by
    intro l x hx
    induction l with
    | nil => cases hx
    | cons y l ih =>
      have e : cat (bytesOf (y :: l)) = form y.2 ++ cat (bytesOf l) := cat_cons _ _
      rw [e, List.length_append]
      rcases List.mem_cons.1 hx with rfl | hx
      · simp [form, be8_len]; omega
      · have := ih hx; omega
  have hinj : cat (bytesOf ps) = cat (bytesOf qs) → bytesOf ps = bytesOf qs := cat_inj _ _ (fun x hx => by have := hbl ps x hx; omega) (fun x hx => by have := hbl qs x hx; omega)
  obtain ⟨PA, pc, rfl, _, _, _⟩ := ha.outer
  obtain ⟨QA, qc, rfl, _, _, _⟩ := hb.outer
  have hinj2 := Lib.hid hinj
  have hbl2 := Lib.hid hbl
  clear ha hb la lb hinj hbl
  go_enter Try.func3, Try.ntmps3
  go_wp2_with (go_at_call 8; refine (first_true _).mono ?_; rintro e w1 ⟨rfl, hk⟩; have k1 := Lib.hid hk; clear hk)
  have ea : (bytesOf ps).length = ps.length := by simp
  have eb : (bytesOf qs).length = qs.length := by simp
  go_loopg [5, 7, 19] ps.length (fun g xv same i wk => ∃ k : Nat, g + k = ps.length ∧ i = .int .i64 k ∧ same = .bool (sameB (bytesOf ps) (bytesOf qs) k) ∧ New w1 wk xv (cat ((bytesOf ps).take k)))
  case atStart => exact ⟨0, rfl, rfl, by unfold sameB; rw [ea, eb]; simp only [List.take_zero, and_true]; congr 1; rw [Bool.eq_iff_iff]; simp; omega, by simpa [cat_nil] using New.nil w1⟩
  case round =>
    obtain ⟨k, hk, rfl, rfl, hn⟩ := hrel
    by_cases hlt : k < ps.length
    · have hPk := hA.out.kept0 (k1.out.then0 hn.kept)
      obtain ⟨p1, p2, hpk⟩ : ∃ p1 p2, ps[k] = (p1, p2) := ⟨_, _, rfl⟩
      obtain ⟨pb, po, pc2, heq, _, hcell⟩ := hPk.outer.at_ (by omega)
      cases heq
      have hcl := hcell k p1 (by simp [hlt, hpk])
      have hin := hPk.inner (p1, p2) (hpk ▸ List.getElem_mem _)
      dsimp only at hin
      have hin2 := Lib.hid hin
      obtain ⟨B, bc, rfl, _, _, _⟩ := hin
      have hk2 : (bytesOf ps)[k]'(by omega) = p2 := by simp [hpk]
      have hlen : (cat ((bytesOf ps).take k)).length + p2.length ≤ 140737488355320 := by
        have h1 := cat_take_le (bytesOf ps) (k + 1)
        rw [cat_take_succ _ k (by omega), List.length_append, hk2] at h1
        have := hla.out
        simp [form, be8_len] at h1
        omega
      have hlen2 := Lib.hid hlen
      have hn2 := Lib.hid hn
      clear hn hlen hcell hPk
      cases hsb : sameB (bytesOf ps) (bytesOf qs) k with
      | false =>
        have hnx := sameB_no _ _ _ hsb
        go_wp2_with (go_at_call 9; refine (bytes_any _ _ (cat ((bytesOf ps).take k)) p2 _ (Rd.of_ow hn2.out.ow) hin2.out hlen2.out).mono ?_; rintro e w2 ⟨ov, rfl, hw⟩; have hn3 := Lib.hid (hn2.out.next hw); clear hw)
        refine Txt.wp_text (by kernel_rfl) (by kernel_rfl) ?_
        go_wp2_with fail
        refine ⟨rfl, by kernel_rfl, ?_⟩
        go_wp2_with fail
        go_roundg (ps.length - (k + 1))
        case measure => omega
        case rel => exact ⟨k + 1, by omega, by go_num, by rw [hnx], by rw [cat_take_succ _ k (by omega), hk2]; have := hn3.out; exact ⟨this.ow, this.kept.drew, this.near⟩⟩
      | true =>
        have hll := sameB_len _ _ _ hsb
        have hltq : k < qs.length := by omega
        have hnx := sameB_yes _ _ _ hsb (by omega) (by omega)
        obtain ⟨q1, q2, hqk⟩ : ∃ q1 q2, qs[k] = (q1, q2) := ⟨_, _, rfl⟩
        have hQk := hB.out.kept0 (k1.out.then0 hn2.out.kept)
        have hk3 : (bytesOf qs)[k]'(by omega) = q2 := by simp [hqk]
        rw [hk2, hk3] at hnx
        obtain ⟨qb, qo, qc2, heq, _, hcell⟩ := hQk.outer.at_ (by omega)
        cases heq
        have hqin := hQk.inner (q1, q2) (hqk ▸ List.getElem_mem _)
        dsimp only at hqin
        have hqin2 := Lib.hid hqin
        obtain ⟨B2, bc2, rfl, _, _, _⟩ := hqin
        have hcq := hcell k (.slice B2 q2.length bc2) (by simp [hltq, hqk])
        clear hcell hQk
        have hnx3 := Lib.hid hnx
        clear hnx
        by_cases hpq : p2 = q2
        · subst hpq
          have hmk := mkS_eq p2
          go_wp2_with (go_at_call 9; refine (bytes_any _ _ (cat ((bytesOf ps).take k)) p2 _ (Rd.of_ow hn2.out.ow) hin2.out hlen2.out).mono ?_; rintro e w2 ⟨ov, rfl, hw⟩; have hn3 := Lib.hid (hn2.out.next hw); have e1 := run_toS (P := Try.prog) (s := 24) (d := 9) (e := 5) rfl rfl rfl (hin2.out.kept0 hw.kept).drew; have e2 := run_toS (P := Try.prog) (s := 24) (d := 9) (e := 5) rfl rfl rfl (hqin2.out.kept0 hw.kept).drew; have d1 := (hw.kept.drew).cell hcl (by simp); have d2 := (hw.kept.drew).cell hcq (by simp); clear hw)
          refine Txt.wp_text (by kernel_rfl) (by kernel_rfl) ?_
          go_wp2_with fail
          refine ⟨rfl, by kernel_rfl, ?_⟩
          go_wp2_with fail
          go_roundg (ps.length - (k + 1))
          case measure => omega
          case rel => exact ⟨k + 1, by omega, by go_num, by rw [hnx3.out]; simp, by rw [cat_take_succ _ k (by omega), hk2]; have := hn3.out; exact ⟨this.ow, this.kept.drew, this.near⟩⟩
        · have hmk := mkS_ne hpq
          go_wp2_with (go_at_call 9; refine (bytes_any _ _ (cat ((bytesOf ps).take k)) p2 _ (Rd.of_ow hn2.out.ow) hin2.out hlen2.out).mono ?_; rintro e w2 ⟨ov, rfl, hw⟩; have hn3 := Lib.hid (hn2.out.next hw); have e1 := run_toS (P := Try.prog) (s := 24) (d := 9) (e := 5) rfl rfl rfl (hin2.out.kept0 hw.kept).drew; have e2 := run_toS (P := Try.prog) (s := 24) (d := 9) (e := 5) rfl rfl rfl (hqin2.out.kept0 hw.kept).drew; have d1 := (hw.kept.drew).cell hcl (by simp); have d2 := (hw.kept.drew).cell hcq (by simp); clear hw)
          refine Txt.wp_text (by kernel_rfl) (by kernel_rfl) ?_
          go_wp2_with fail
          refine ⟨rfl, by kernel_rfl, ?_⟩
          go_wp2_with fail
          go_roundg (ps.length - (k + 1))
          case measure => omega
          case rel => exact ⟨k + 1, by omega, by go_num, by rw [hnx3.out]; simp [hpq], by rw [cat_take_succ _ k (by omega), hk2]; have := hn3.out; exact ⟨this.ow, this.kept.drew, this.near⟩⟩
    · obtain rfl : k = ps.length := by omega
      have hsa : sameB (bytesOf ps) (bytesOf qs) ps.length = decide (bytesOf ps = bytesOf qs) := by rw [← ea]; exact sameB_all _ _
      have hcx : cat ((bytesOf ps).take ps.length) = cat (bytesOf ps) := by rw [← ea, List.take_length]
      rw [hsa]
      rw [hcx] at hn
      have hn2 := Lib.hid hn
      clear hn hsa hcx
      go_wp2_with fail
      go_loopg [6, 51] qs.length (fun g yv i wk => ∃ j : Nat, g + j = qs.length ∧ i = .int .i64 j ∧ New w1 wk yv (cat ((bytesOf qs).take j)) ∧ New w1 wk u5 (cat (bytesOf ps)))
      case atStart => exact ⟨0, rfl, rfl, by
        have h := hn2.out
        exact ⟨by simpa [cat_nil] using Ow.nil wr 5 1, h.kept, .inl rfl⟩, hn2.out⟩
      case round =>
        obtain ⟨j, hj, rfl, hny, hnx⟩ := hrel
        by_cases hltq : j < qs.length
        · have hQk := hB.out.kept0 (k1.out.then0 hny.kept)
          obtain ⟨q1, q2, hqk⟩ : ∃ q1 q2, qs[j] = (q1, q2) := ⟨_, _, rfl⟩
          obtain ⟨qb, qo, qc2, heq, _, hcell⟩ := hQk.outer.at_ (by omega)
          cases heq
          have hcq := hcell j q1 (by simp [hltq, hqk])
          have hin := hQk.inner (q1, q2) (hqk ▸ List.getElem_mem _)
          dsimp only at hin
          have hin2 := Lib.hid hin
          obtain ⟨B, bc, rfl, _, _, _⟩ := hin
          have hk2 : (bytesOf qs)[j]'(by omega) = q2 := by simp [hqk]
          have hlen : (cat ((bytesOf qs).take j)).length + q2.length ≤ 140737488355320 := by
            have h1 := cat_take_le (bytesOf qs) (j + 1)
            rw [cat_take_succ _ j (by omega), List.length_append, hk2] at h1
            have := hlb.out
            simp [form, be8_len] at h1
            omega
          have hlen2 := Lib.hid hlen
          have hny2 := Lib.hid hny
          have hnx2 := Lib.hid hnx
          clear hny hnx hlen hcell hQk
          go_wp2_with (go_at_call 9; refine (bytes_any _ _ (cat ((bytesOf qs).take j)) q2 _ (Rd.of_ow hny2.out.ow) hin2.out hlen2.out).mono ?_; rintro e w2 ⟨ov, rfl, hw⟩; have hn3 := Lib.hid (hny2.out.next hw); have hn4 := Lib.hid (hnx2.out.then0 hw.kept); clear hw)
          go_roundg (qs.length - (j + 1))
          case measure => omega
          case rel => exact ⟨j + 1, by omega, by go_num, by rw [cat_take_succ _ j (by omega), hk2]; exact hn3.out, hn4.out⟩
        · have hcy : cat ((bytesOf qs).take j) = cat (bytesOf qs) := by rw [show j = qs.length from by omega, ← eb, List.take_length]
          rw [hcy] at hny
          have e1 := run_toS (P := Try.prog) (s := 24) (d := 9) (e := 5) rfl rfl rfl (Rd.of_ow hnx.ow)
          have e2 := run_toS (P := Try.prog) (s := 24) (d := 9) (e := 5) rfl rfl rfl (Rd.of_ow hny.ow)
          have hk5 := Lib.hid hnx.kept
          clear hnx hny hcy
          by_cases heq : bytesOf ps = bytesOf qs
          · have hmk : (cat (bytesOf ps) == cat (bytesOf qs)) = true := by rw [heq]; exact beq_self_eq_true _
            have hde : decide (bytesOf ps = bytesOf qs) = true := by simp [heq]
            clear heq
            go_wp2_with fail
            go_ret
            exact ⟨rfl, k1.out.then0 hk5.out⟩
          · have hmk : (cat (bytesOf ps) == cat (bytesOf qs)) = false := by rw [beq_eq_false_iff_ne]; exact fun h => heq (hinj2.out h)
            have hde : decide (bytesOf ps = bytesOf qs) = false := by simp [heq]
            clear heq
            go_wp2_with fail
            go_ret
            exact ⟨rfl, k1.out.then0 hk5.out⟩

end Go.Proofs.Ytbhjhfemicbhaaa
