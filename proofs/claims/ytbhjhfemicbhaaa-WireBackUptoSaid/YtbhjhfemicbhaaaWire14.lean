/-
  The wire: what every bytes are read as (WireReads).
-/
import Derived.Test.YtbhjhfemicbhaaaWire13
import Derived.Deep.RegionWith
namespace Go.Proofs.Ytbhjhfemicbhaaa
open Go.RowKit Go.Mem

theorem beq_self_bytes (l : List UInt8) : (l == l) = true := by simp

/-- Both stand alike. -/
structure Alike (w0 wk : World) (r t : Nat) (s : St) : Prop where
  rd : RdrA wk r s
  tp : TapeA wk w0.heap.size t s
  kept : Kept [] w0 wk
  lr : w0.heap.size ≤ r
  ne : r ≠ t

theorem Alike.tape {w0 wk w' : World} {r t : Nat} {s s' : St} (h : Alike w0 wk r t s) (_ : RdrA w' r s') (hk : Kept [r] wk w') : TapeA w' w0.heap.size t s ∧ Kept [] w0 w' :=
  ⟨h.tp.kept hk (by simpa using fun e => h.ne e.symm) (by simpa using h.lr), kfresh h.kept hk h.lr⟩
theorem Alike.step {w0 wk w1 w' : World} {r t : Nat} {s s' : St} (h : Alike w0 wk r t s) (hr : RdrA w1 r s') (hk : Kept [r] wk w1) (ht : TapeA w' w0.heap.size t s') (hk2 : Kept [t] w1 w') : Alike w0 w' r t s' := by
  obtain ⟨h1, h2⟩ := h.tape hr hk
  obtain ⟨v, bs, k, hb, _⟩ := h1
  exact ⟨hr.kept1 hk2 hb (by decide) h.ne, ht, kfresh h2 hk2 h.tp.base_le, h.lr, h.ne⟩
theorem Alike.kept0 {w0 wk w' : World} {r t : Nat} {s : St} (h : Alike w0 wk r t s) (hk : Kept [] wk w') : Alike w0 w' r t s :=
  ⟨h.rd.kept0 hk, h.tp.kept0 hk, h.kept.then0 hk, h.lr, h.ne⟩

theorem six (c : UInt8) : ((c.toNat : Int) % 6 = 0) ∨ ((c.toNat : Int) % 6 = 1) ∨ ((c.toNat : Int) % 6 = 2) ∨ ((c.toNat : Int) % 6 = 3) ∨ ((c.toNat : Int) % 6 = 4) ∨ ((c.toNat : Int) % 6 = 5) := by omega

theorem bytes_far {w0 wk w1 w' : World} {r t : Nat} {s s' : St} {x : Value} {xs : List UInt8} (h : Alike w0 wk r t s) (hh : RdrA w1 r s' ∧ Kept [r] wk w1 ∧ Ow w1 5 1 x xs.length (bv xs) ∧ Near none wk.heap.size x) (hk : Kept [t] w1 w') : Ow w' 5 1 x xs.length (bv xs) := by
  refine hh.2.2.1.kept hk fun k hx hm => ?_
  have hm : k = t := by simpa using hm
  rcases hh.2.2.2 with h2 | ⟨g, h2, hg⟩
  · rw [hx] at h2; cases h2
  · rw [hx] at h2
    have : k = g := by simpa using h2
    have := h.tp.lt
    omega

theorem nil32 : ∃ Z : Array Value, (∀ w, Calls Try.prog 18 #[.pointer none] w fun e w' => e = .returned (.agg Z) ∧ Kept [] w w') ∧ ∀ W, (Op.equalIn 10000 41 (.agg Z) (.agg #[.int .u8 0, .int .u8 0, .int .u8 0, .int .u8 0, .int .u8 0, .int .u8 0, .int .u8 0, .int .u8 0, .int .u8 0, .int .u8 0, .int .u8 0, .int .u8 0, .int .u8 0, .int .u8 0, .int .u8 0, .int .u8 0, .int .u8 0, .int .u8 0, .int .u8 0, .int .u8 0, .int .u8 0, .int .u8 0, .int .u8 0, .int .u8 0, .int .u8 0, .int .u8 0, .int .u8 0, .int .u8 0, .int .u8 0, .int .u8 0, .int .u8 0, .int .u8 0])).run Try.prog W = .ok true W :=
  ⟨_, hash_nil, fun W => run_eqIn_ab arr32 Try.underlying5 (by kernel_rfl) (noughts 32) (noughts 32) rfl rfl W⟩
theorem nil64 : ∃ Z : Array Value, (∀ w, Calls Try.prog 20 #[.pointer none] w fun e w' => e = .returned (.agg Z) ∧ Kept [] w w') ∧ ∀ W, (Op.equalIn 10000 43 (.agg Z) (.agg #[.int .u8 0, .int .u8 0, .int .u8 0, .int .u8 0, .int .u8 0, .int .u8 0, .int .u8 0, .int .u8 0, .int .u8 0, .int .u8 0, .int .u8 0, .int .u8 0, .int .u8 0, .int .u8 0, .int .u8 0, .int .u8 0, .int .u8 0, .int .u8 0, .int .u8 0, .int .u8 0, .int .u8 0, .int .u8 0, .int .u8 0, .int .u8 0, .int .u8 0, .int .u8 0, .int .u8 0, .int .u8 0, .int .u8 0, .int .u8 0, .int .u8 0, .int .u8 0, .int .u8 0, .int .u8 0, .int .u8 0, .int .u8 0, .int .u8 0, .int .u8 0, .int .u8 0, .int .u8 0, .int .u8 0, .int .u8 0, .int .u8 0, .int .u8 0, .int .u8 0, .int .u8 0, .int .u8 0, .int .u8 0, .int .u8 0, .int .u8 0, .int .u8 0, .int .u8 0, .int .u8 0, .int .u8 0, .int .u8 0, .int .u8 0, .int .u8 0, .int .u8 0, .int .u8 0, .int .u8 0, .int .u8 0, .int .u8 0, .int .u8 0, .int .u8 0])).run Try.prog W = .ok true W :=
  ⟨_, sig_nil, fun W => run_eqIn_ab arr64 Try.underlying5 (by kernel_rfl) (noughts 64) (noughts 64) rfl rfl W⟩

set_option maxRecDepth 100000 in
set_option maxHeartbeats 2000000 in
theorem reads_walk (v c : Value) (bs cs : List UInt8) (w : World) (hb : Rd w 1 v bs.length (bv bs)) (hc : Rd w 1 c cs.length (bv cs)) (hl : bs.length ≤ 140737488355328) (hcl : cs.length ≤ 9223372036854775807) :
    Calls Try.prog 5 #[v, c] w fun e w' => e = .returned (.bool true) ∧ Kept [] w w' := by
  have hb2 := Lib.hid hb
  have hc2 := Lib.hid hc
  obtain ⟨CA, cc, rfl, _, _, _⟩ := hc
  obtain ⟨BA, bc, rfl, _, _, _⟩ := hb
  go_enter Try.func5, Try.ntmps5
  go_wp2_with (first
    | (go_at_call 8; refine (first_true _).mono ?_; rintro e w1 ⟨rfl, hk⟩; have k1 := Lib.hid hk; clear hk)
    | (go_at_call 11; refine (new_any _ _ _ (hb2.out.kept0 k1.out) hl).mono ?_; rintro e w2 ⟨r, rfl, hr, hk, hle⟩; have hr2 := Lib.hid hr; have k2 := Lib.hid (k1.out.then0 hk); have l2 := Lib.hid (Nat.le_trans k1.out.size hle); clear hr hk hle))
  have hA : Alike w (w2.alloc (.cells #[.slice BA bs.length bc, .int .i64 0, .int .i64 0] 39)) r w2.heap.size (0, bs) := by
    refine ⟨hr2.out.kept0 ((Kept.refl [] w2).alloc _), ⟨_, bs, 0, Blk.new _ _ _, (hb2.out.kept0 k2.out).alloc _, Nat.zero_le _, by omega, rfl, k2.out.size, fun hn g hg => ?_⟩, k2.out.alloc _, l2.out, by have := hr2.out.lt; omega⟩
    obtain ⟨g', hg', hlt⟩ := hb2.out.lt (by omega) hn
    rw [hg'] at hg; cases hg; exact hlt
  have hA2 := Lib.hid hA
  clear hA
  generalize hT : w2.heap.size = t at *
  clear hT
  go_loopg [20] cs.length (fun g i wk => ∃ k s, g + k = cs.length ∧ i = .int .i64 k ∧ Alike w wk r t s)
  case atStart => exact ⟨0, _, rfl, rfl, hA2.out⟩
  case round =>
    obtain ⟨k, s, hk, rfl, hal⟩ := hrel
    have hal2 := Lib.hid hal
    by_cases hlt : k < cs.length ∧ k < 40
    · obtain ⟨hlt, h40⟩ := hlt
      obtain ⟨xb, xo, xc, hxe, _, hcell⟩ := (hc2.out.kept0 hal.kept).at_ (by omega)
      cases hxe
      have hc0 := hcell k (byteV cs[k]) (by simp [hlt])
      unfold byteV at hc0
      clear hcell hal
      generalize cs[k] = q at *
      go_upto_block 2 with fail
      go_cut [9, 28] (fun ok _ wc => ok = .bool true ∧ ∃ s', Alike w wc r t s')
      case first =>
        rcases six q with hq | hq | hq | hq | hq | hq
        · go_wp2_with fail
          refine (number_read _ _ _ hal2.out.rd).mono ?_
          rintro e w3 ⟨rfl, hr, hk⟩
          have hh := Lib.hid (And.intro hr hk)
          clear hr hk
          go_wp2_with fail
          refine (tnum_any _ _ _ _ (hal2.out.tape hh.out.1 hh.out.2).1).mono ?_
          rintro e w4 ⟨rfl, ht, hk2⟩
          have ha := Lib.hid (hal2.out.step hh.out.1 hh.out.2 ht hk2)
          clear ht hk2
          go_wp2_with fail
          go_meet
          exact ⟨rfl, _, ha.out⟩
        · go_wp2_with fail
          go_region_with (first
            | (go_at_call 12; refine (bytes_read _ _ _ hal2.out.rd.drew).mono ?_; rintro e w3 ⟨x, rfl, ho, hn, hr, hk0⟩; have hk := hk0.from_drew; clear hk0; have hs1 := run_toS (P := Try.prog) (s := 24) (d := 9) (e := 5) rfl rfl rfl (Rd.of_ow ho); have hh := Lib.hid (And.intro hr (And.intro hk (And.intro ho hn))); clear hr hk ho hn)
            | (go_at_call 17; refine (tnext_any _ _ _ _ ((hal2.out.tape hh.out.1 hh.out.2.1).1)).mono ?_; rintro e w4 ⟨y, rfl, hy, ht, hk2⟩; have ha := Lib.hid (hal2.out.step hh.out.1 hh.out.2.1 ht hk2); have hs2 := run_toS (P := Try.prog) (s := 24) (d := 9) (e := 5) rfl rfl rfl hy; have hs3 := run_toS (P := Try.prog) (s := 24) (d := 9) (e := 5) rfl rfl rfl (Rd.of_ow (bytes_far hal2.out hh.out hk2)); clear ht hk2 hy))
          all_goals
            go_wp2_with fail
            go_meet
            exact ⟨rfl, _, ha.out⟩
        · go_wp2_with fail
          refine (hash_any _ _ _ hal2.out.rd).mono ?_
          rintro e w3 ⟨rfl, hr, hk⟩
          have hh := Lib.hid (And.intro hr hk)
          clear hr hk
          go_wp2_with fail
          refine (thash_any _ _ _ _ (hal2.out.tape hh.out.1 hh.out.2).1).mono ?_
          rintro e w4 ⟨rfl, ht, hk2⟩
          have ha := Lib.hid (hal2.out.step hh.out.1 hh.out.2 ht hk2)
          clear ht hk2
          have he := run_eqIn_ab arr32 Try.underlying5 (by kernel_rfl) (sArr 32 s).1 (sArr 32 s).1 (sArr_len _ _) (sArr_len _ _) w4
          rw [beq_self_bytes] at he
          go_wp2_with fail
          go_meet
          exact ⟨rfl, _, ha.out⟩
        · go_wp2_with fail
          refine (sig_any _ _ _ hal2.out.rd).mono ?_
          rintro e w3 ⟨rfl, hr, hk⟩
          have hh := Lib.hid (And.intro hr hk)
          clear hr hk
          go_wp2_with fail
          refine (tsig_any _ _ _ _ (hal2.out.tape hh.out.1 hh.out.2).1).mono ?_
          rintro e w4 ⟨rfl, ht, hk2⟩
          have ha := Lib.hid (hal2.out.step hh.out.1 hh.out.2 ht hk2)
          clear ht hk2
          have he := run_eqIn_ab arr64 Try.underlying5 (by kernel_rfl) (sArr 64 s).1 (sArr 64 s).1 (sArr_len _ _) (sArr_len _ _) w4
          rw [beq_self_bytes] at he
          go_wp2_with fail
          go_meet
          exact ⟨rfl, _, ha.out⟩
        · go_wp2_with fail
          refine (count_any _ _ _ hal2.out.rd).mono ?_
          rintro e w3 ⟨rfl, hr, hk⟩
          have hh := Lib.hid (And.intro hr hk)
          clear hr hk
          go_wp2_with fail
          refine (tupto_any _ _ 65536 _ _ (hal2.out.tape hh.out.1 hh.out.2).1 (by omega)).mono ?_
          rintro e w4 ⟨rfl, ht, hk2⟩
          have ha := Lib.hid (hal2.out.step hh.out.1 hh.out.2 ht hk2)
          clear ht hk2
          go_wp2_with fail
          go_meet
          exact ⟨rfl, _, ha.out⟩
        · go_wp2_with fail
          go_meet
          exact ⟨rfl, _, hal2.out⟩
      case rest =>
        obtain ⟨rfl, s', hb⟩ := hcut
        have hb2 := Lib.hid hb
        clear hb
        go_wp2_with (first
          | (go_at_call 14; refine (done_any _ _ _ hb2.out.rd).mono ?_; rintro e w' ⟨rfl, rfl⟩)
          | (go_at_call 23; refine (tend_any _ _ _ _ hb2.out.tp).mono ?_; rintro e w5 ⟨rfl, hk5⟩; have hk6 := Lib.hid hk5; clear hk5))
        go_roundg (cs.length - (k + 1))
        case measure => omega
        case rel => exact ⟨k + 1, s', by omega, by go_num, hb2.out.kept0 hk6.out⟩
    · obtain ⟨Z32, hn32, e32⟩ := nil32
      obtain ⟨Z64, hn64, e64⟩ := nil64
      have hn3 := Lib.hid hn32
      have hn6 := Lib.hid hn64
      clear hn32 hn64
      have hkc : cs.length ≤ k ∨ (k < cs.length ∧ 40 ≤ k) := by omega
      clear hal
      rcases hkc with hge | ⟨hlt2, h40⟩
      · obtain rfl : k = cs.length := by omega
        go_wp2_with (first
          | (go_at_call 14; with_reducible refine (done_any _ _ _ hal2.out.rd).mono ?_; rintro e w' ⟨rfl, rfl⟩)
          | (go_at_call 23; refine (tend_any _ _ _ _ hal2.out.tp).mono ?_; rintro e w5 ⟨rfl, hk5⟩; have hk6 := Lib.hid hk5; clear hk5)
          | (go_at_call 15; refine (number_nil _).mono ?_; rintro e w' ⟨rfl, rfl⟩)
          | (go_at_call 12; refine (bytes_nil _).mono ?_; rintro e w' ⟨rfl, rfl⟩)
          | (go_at_call 18; refine (hn3.out _).mono ?_; rintro e w6 ⟨rfl, hk7⟩; have hk8 := Lib.hid hk7; clear hk7)
          | (go_at_call 20; refine (hn6.out _).mono ?_; rintro e w7 ⟨rfl, hk9⟩; have hk10 := Lib.hid hk9; clear hk9)
          | (go_at_call 13; refine (count_nil _).mono ?_; rintro e w' ⟨rfl, rfl⟩)
          | (go_at_call 14; with_reducible refine (done_nil _).mono ?_; rintro e w' ⟨rfl, rfl⟩))
        go_ret
        exact ⟨rfl, ((hal2.out.kept.then0 hk6.out).then0 hk8.out).then0 hk10.out⟩
      · obtain ⟨xb, xo, xc, hxe, _, hcell⟩ := (hc2.out.kept0 hal2.out.kept).at_ (by omega)
        cases hxe
        have hc0 := hcell k (byteV cs[k]) (by simp [hlt2])
        unfold byteV at hc0
        clear hcell
        generalize cs[k] = q at *
        go_wp2_with (first
          | (go_at_call 14; with_reducible refine (done_any _ _ _ hal2.out.rd).mono ?_; rintro e w' ⟨rfl, rfl⟩)
          | (go_at_call 23; refine (tend_any _ _ _ _ hal2.out.tp).mono ?_; rintro e w5 ⟨rfl, hk5⟩; have hk6 := Lib.hid hk5; clear hk5)
          | (go_at_call 15; refine (number_nil _).mono ?_; rintro e w' ⟨rfl, rfl⟩)
          | (go_at_call 12; refine (bytes_nil _).mono ?_; rintro e w' ⟨rfl, rfl⟩)
          | (go_at_call 18; refine (hn3.out _).mono ?_; rintro e w6 ⟨rfl, hk7⟩; have hk8 := Lib.hid hk7; clear hk7)
          | (go_at_call 20; refine (hn6.out _).mono ?_; rintro e w7 ⟨rfl, hk9⟩; have hk10 := Lib.hid hk9; clear hk9)
          | (go_at_call 13; refine (count_nil _).mono ?_; rintro e w' ⟨rfl, rfl⟩)
          | (go_at_call 14; with_reducible refine (done_nil _).mono ?_; rintro e w' ⟨rfl, rfl⟩))
        go_ret
        exact ⟨rfl, ((hal2.out.kept.then0 hk6.out).then0 hk8.out).then0 hk10.out⟩

theorem reads_law (v : Value) (bs : List UInt8) (c : Value) (cs : List UInt8) (w : World) (hb : Rd w 1 v bs.length (bv bs)) (hl : bs.length ≤ 140737488351232) (hc : Rd w 1 c cs.length (bv cs)) (hcl : cs.length ≤ 140737488351232) :
    Calls Try.prog 5 #[v, c] w fun e w' => e = .returned (.bool true) ∧ Kept [] w w' := reads_walk v c bs cs w hb hc (by omega) (by omega)

end Go.Proofs.Ytbhjhfemicbhaaa
