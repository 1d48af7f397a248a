/-
  Bytes: copied, numbers written, joined (the wire's texts, for programs with fewer functions).
-/
import Derived.Test.YtdbngnlpafcogaaFam
import Derived.WalkKit
import Derived.WalkSpells
import Derived.WalkLawsBesides
import Derived.Deep.LoopGhost
import Derived.Deep.DeepCutAuto
import Derived.Deep.CutBlock
namespace Go.Proofs.Ytdbngnlpafcogaa
open Go.RowKit Go.Mem

theorem bytesT : SliceT Try.prog 23 5 1 1 (.int .u8 0) := ⟨Try.underlying23, by kernel_rfl, rfl, by omega⟩

@[go_sem] theorem eqnilB (A : Option Addr) (n c n' c' : Nat) (w : World) : (binOp .eql 23 (.slice A n c) (.slice none n' c')).run Try.prog w = .ok (.bool A.isNone) w := run_eqnil Try.underlying23 A n c n' c' w

/-- A row of bytes that was not there before. -/
structure New (w w' : World) (v : Value) (xs : List UInt8) : Prop where
  ow : Ow w' 5 1 v xs.length (bv xs)
  kept : Kept [] w w'
  near : Near none w.heap.size v

/-- A number's eight bytes. -/
def be8 (v : Nat) : List UInt8 := (List.range 8).map fun j => UInt8.ofNat (v / 256 ^ (7 - j))

theorem be8_len (v : Nat) : (be8 v).length = 8 := by simp [be8]
theorem be8_take (v j : Nat) (h : j < 8) : (be8 v).take (j + 1) = (be8 v).take j ++ [UInt8.ofNat (v / 256 ^ (7 - j))] := by
  rw [List.take_succ_eq_append_getElem (by rw [be8_len]; exact h)]
  simp [be8]
theorem be8_byte (v j : Nat) (h : j < 8) : Value.int .u8 ((v : Int) / 2 ^ (56 - 8 * j) % 256) = byteV (UInt8.ofNat (v / 256 ^ (7 - j))) := by
  have e : (2 : Nat) ^ (56 - 8 * j) = 256 ^ (7 - j) := by
    have : j = 0 ∨ j = 1 ∨ j = 2 ∨ j = 3 ∨ j = 4 ∨ j = 5 ∨ j = 6 ∨ j = 7 := by omega
    rcases this with rfl | rfl | rfl | rfl | rfl | rfl | rfl | rfl <;> rfl
  unfold byteV
  rw [UInt8.toNat_ofNat', ← e]
  simp

theorem New.step {w w1 w2 : World} {v v' : Value} {xs ys : List UInt8} (h : New w w1 v xs) {S : List Nat} (ho : Ow w2 5 1 v' ys.length (bv ys)) (hk : Kept S w1 w2) (hS : ∀ k ∈ S, w.heap.size ≤ k) (hb : v'.ownBlock = v.ownBlock ∨ ∃ k, v'.ownBlock = some k ∧ w.heap.size ≤ k) : New w w2 v' ys := by
  refine ⟨ho, h.kept.fresh hk hS, ?_⟩
  rcases hb with hb | ⟨k, hb, hk⟩
  · rcases h.near with h | ⟨g, h, hg⟩
    · exact .inl (hb.trans h)
    · exact .inr ⟨g, hb.trans h, hg⟩
  · exact .inr ⟨k, hb, hk⟩
theorem New.old {w w1 : World} {v : Value} {xs : List UInt8} (h : New w w1 v xs) : ∀ k ∈ v.ownBlock.toList, w.heap.size ≤ k := by
  intro k hk
  have hk := mem_own hk
  rcases h.near with h | ⟨g, h, hg⟩
  · rw [hk] at h; cases h
  · rw [hk] at h; have : k = g := by simpa using h
    omega

/-- Bytes in their form. -/
theorem New.next {w w1 w2 : World} {v v' : Value} {xs ys : List UInt8} (h : New w w1 v xs) (h2 : New w1 w2 v' ys) : New w w2 v' ys := by
  refine ⟨h2.ow, h.kept.then0 h2.kept, ?_⟩
  rcases h2.near with h3 | ⟨g, h3, hg⟩
  · exact .inl h3
  · exact .inr ⟨g, h3, by have := h.kept.size; omega⟩
theorem New.then0 {w w1 w2 : World} {v : Value} {xs : List UInt8} (h : New w w1 v xs) (hk : Kept [] w1 w2) : New w w2 v xs := ⟨h.ow.kept0 hk, h.kept.then0 hk, h.near⟩
theorem New.nil (w : World) : New w w (.slice none 0 0) [] := ⟨Ow.nil _ _ _, Kept.refl _ _, .inl rfl⟩
structure Parts (w : World) (pv : Value) (ps : List (Value × List UInt8)) : Prop where
  outer : Rd w 1 pv ps.length (ps.map (·.1))
  inner : ∀ x ∈ ps, Rd w 1 x.1 x.2.length (bv x.2)
theorem Parts.kept0 {w w' : World} {pv : Value} {ps : List (Value × List UInt8)} (h : Parts w pv ps) (hk : Kept [] w w') : Parts w' pv ps :=
  ⟨h.outer.kept0 hk, fun x hx => (h.inner x hx).kept0 hk⟩
abbrev bytesOf (ps : List (Value × List UInt8)) : List (List UInt8) := ps.map (·.2)

theorem grow_nil (n : Nat) (w : World) (hn : n ≤ 140737488355328) :
    Calls Try.prog 109 #[.slice none 0 0, .int .i64 n] w fun e w' => ∃ v', e = .returned v' ∧ New w w' v' [] := by
  by_cases h0 : n = 0
  · subst h0
    go_enter Try.func109, Try.ntmps109
    go_wp2_with fail
    go_ret
    exact ⟨_, rfl, New.nil w⟩
  · go_enter Try.func109, Try.ntmps109
    go_wp2_with (at_builtin; refine wpl_app_made bytesT rfl rfl Try.underlying3 rfl (.tmp 20) (.tmp 21) rfl rfl (Ow.nil w 5 1) n rfl ?_ ?_ ?_)
    case refine_1 => omega
    case refine_2 => omega
    intro v' w2 ho hk hb
    obtain ⟨B, d, hB, oB, bB⟩ := ow_to bytesT ho .i64 0 (Nat.zero_le _)
    have hB2 : ∀ W, (Instr.sliceAt 23 v' none (some (.int .i64 0)) none).run Try.prog W = .ok (.slice B 0 d) W := fun W => hB W
    have oB2 := Lib.hid oB
    have bB2 := Lib.hid bB
    have hk2 := Lib.hid hk
    have hb2 := Lib.hid hb
    clear oB bB hk hb ho hB
    go_wp2_with fail
    go_ret
    refine ⟨.slice B 0 d, rfl, by simpa using oB2.out, by simpa [Value.ownBlock] using hk2.out, ?_⟩
    rcases hb2.out with h | h
    · exact .inl (by rw [bB2.out, h]; rfl)
    · exact .inr ⟨_, by rw [bB2.out, h], Nat.le_refl _⟩

def joined (ps : List (Value × List UInt8)) : List UInt8 := (bytesOf ps).flatten
theorem joined_append (a b : List (Value × List UInt8)) : joined (a ++ b) = joined a ++ joined b := by
  unfold joined bytesOf
  rw [List.map_append, List.flatten_append]
theorem joined_succ (ps : List (Value × List UInt8)) (k : Nat) (h : k < ps.length) : joined (ps.take (k + 1)) = joined (ps.take k) ++ ps[k].2 := by
  rw [List.take_succ_eq_append_getElem h, joined_append]
  simp [joined]
theorem joined_le (ps : List (Value × List UInt8)) (k : Nat) : (joined (ps.take k)).length ≤ (joined ps).length := by
  have : joined ps = joined (ps.take k) ++ joined (ps.drop k) := by rw [← joined_append, List.take_append_drop]
  rw [this, List.length_append]; omega

set_option maxHeartbeats 1000000 in
theorem concat_any (pv : Value) (ps : List (Value × List UInt8)) (w : World) (hp : Parts w pv ps) (hn : ps.length ≤ 9223372036854775807) (hl : (joined ps).length ≤ 140737488355328) :
    Calls Try.prog 86 #[pv] w fun e w' => ∃ v', e = .returned v' ∧ New w w' v' (joined ps) := by
  have hP := Lib.hid hp
  have hL := Lib.hid hl
  obtain ⟨PA, pc, rfl, _, _, _⟩ := hp.outer
  clear hp hl
  go_enter Try.func86, Try.ntmps86
  go_wp2_with fail
  go_loop [3, 11] (fun r i => ∃ k : Nat, k ≤ ps.length ∧ i = .int .i64 k ∧ r = .int .i64 (joined (ps.take k)).length) (fun _ i => ps.length - (intOf i).toNat)
  case atStart => exact ⟨0, Nat.zero_le _, rfl, by simp [joined]⟩
  case round =>
    obtain ⟨k, hk, rfl, rfl⟩ := hrel
    by_cases hlt : k < ps.length
    · obtain ⟨pb, po, pc2, heq, _, hcell⟩ := hP.out.outer.at_ (by omega)
      cases heq
      have hin := hP.out.inner ps[k] (List.getElem_mem _)
      have hcl := hcell k ps[k].1 (by simp [hlt])
      have hle := joined_le ps (k + 1)
      have hj := joined_succ ps k hlt
      rw [hj, List.length_append] at hle
      generalize hpk : ps[k] = x at *
      obtain ⟨p1, p2⟩ := x
      obtain ⟨B, bc, hB, _, _, _⟩ := hin
      dsimp only at hB hcl hle hj
      subst hB
      have hLL := hL.out
      have hj2 := Lib.hid hj
      clear hcell hj
      go_wp2_with fail
      exact ⟨⟨k + 1, by omega, by go_num, by rw [hj2.out, List.length_append]; simp⟩, by simp [intOf]; omega⟩
    · obtain rfl : k = ps.length := by omega
      have ht : ps.take ps.length = ps := List.take_length
      rw [ht]
      go_wp2_with (go_at_call 109; refine (grow_nil _ _ hL.out).mono ?_; rintro e w1 ⟨gv, rfl, hg⟩; have hg2 := Lib.hid hg; clear hg)
      go_loopg [6, 27] ps.length (fun g rv i wk => ∃ k : Nat, g + k = ps.length ∧ i = .int .i64 k ∧ New w wk rv (joined (ps.take k)))
      case atStart => exact ⟨0, rfl, rfl, by simpa [joined] using hg2.out⟩
      case round =>
        obtain ⟨k, hk, rfl, hn2⟩ := hrel
        by_cases hlt2 : k < ps.length
        · have hPk := hP.out.kept0 hn2.kept
          obtain ⟨pb, po, pc2, heq, _, hcell⟩ := hPk.outer.at_ (by omega)
          cases heq
          have hin := hPk.inner ps[k] (List.getElem_mem _)
          have hcl := hcell k ps[k].1 (by simp [hlt2])
          have hle := joined_le ps (k + 1)
          have hj := joined_succ ps k hlt2
          rw [hj, List.length_append] at hle
          generalize hpk : ps[k] = x at *
          obtain ⟨p1, p2⟩ := x
          dsimp only at hin hcl hle hj
          have hin2 := Lib.hid hin
          obtain ⟨B, bc, rfl, _, _, _⟩ := hin
          have hsz : (joined (ps.take k)).length + p2.length ≤ 140737488355328 := by have := hL.out; omega
          have hsz2 := Lib.hid hsz
          have hj2 := Lib.hid hj
          obtain ⟨OA, oc, rfl, _⟩ := hn2.ow.shape
          have hn3 := Lib.hid hn2
          clear hcell hj hPk hle hsz hn2
          go_wp2_with (at_builtin; refine wpl_app bytesT rfl (.tmp 31) (.tmp 32) rfl rfl hn3.out.ow rfl hin2.out (one_bv _) ?_ ?_ ?_)
          case refine_1 => have := hsz2.out; omega
          case refine_2 => have := hsz2.out; omega
          intro v' w2 hown hk2 hb2
          have hn4 : New w w2 v' (joined (ps.take (k + 1))) := hn3.out.step (by rw [hj2.out, List.length_append]; simpa [bv] using hown) hk2 hn3.out.old (by
            rcases hb2 with h | h
            · exact .inl h
            · exact .inr ⟨_, h, hn3.out.kept.size⟩)
          have hn5 := Lib.hid hn4
          clear hown hk2 hb2 hn4
          go_wp2_with fail
          go_roundg (ps.length - (k + 1))
          case measure => omega
          case rel => exact ⟨k + 1, by omega, by go_num, hn5.out⟩
        · rw [show k = ps.length from by omega, List.take_length] at hn2
          have hn3 := Lib.hid hn2
          clear hn2
          go_wp2_with fail
          go_ret
          exact ⟨_, rfl, hn3.out⟩

end Go.Proofs.Ytdbngnlpafcogaa
