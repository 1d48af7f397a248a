/-
  Without the document: how much there is room for (DiskRoom): the walk.
-/
import Derived.Test.YtfdioobkbdgbmaaDisk4
import Derived.Test.YtfdioobkbdgbmaaMem2
namespace Go.Proofs.Ytfdioobkbdgbmaa
open Go.RowKit Go.Mem

theorem u64_wrap (x : Int) : IntKind.u64.wrap x = x % 18446744073709551616 := by
  simp [IntKind.wrap, IntKind.signed, IntKind.bits]

theorem room_n (size : Int) : ∃ n : Nat, wrap64 ((IntKind.u64.wrap size).tmod 300) = n ∧ n < 300 := by
  rw [u64_wrap]
  have h0 : 0 ≤ size % 18446744073709551616 := Int.emod_nonneg _ (by omega)
  rw [Int.tmod_eq_emod_of_nonneg h0]
  have h1 : 0 ≤ size % 18446744073709551616 % 300 := Int.emod_nonneg _ (by omega)
  have h2 : size % 18446744073709551616 % 300 < 300 := Int.emod_lt_of_pos _ (by omega)
  generalize size % 18446744073709551616 % 300 = z at *
  refine ⟨z.toNat, ?_, by omega⟩
  rw [IntWalk.wrap64_in z (by omega)]
  omega

/-- A part of noughts is appended. -/
theorem append_made_ok (b size safe k : Nat) (v : Value) (xs : List UInt8) (w : World) (hd : DiskIs w b size safe v xs) (hsz : (size : Int) ≤ 140737488355328) (hf : xs.length + k ≤ size) :
    Calls Try.prog 8 #[.pointer (some ⟨b, 0, none⟩), .slice (some ⟨w.heap.size + 1, 0, none⟩) 1 1] ((w.alloc (.cells (madeCells #[.int .u8 0] k) 5)).alloc (.cells #[.slice (some ⟨w.heap.size, 0, none⟩) k k] 22))
      fun e w' => e = .returned (.int .i64 0) ∧ ∃ v', DiskIs w' b size safe v' (xs ++ List.replicate k 0) ∧ Kept (b :: v.ownBlock.toList) w w' ∧ Near v.ownBlock w.heap.size v' :=
  append_const_ok b size safe v xs (List.replicate k 0) _ _ k w hd (by simp) (made_zero k) hsz (by simpa using hf)
theorem append_made_full (b size safe k : Nat) (v : Value) (xs : List UInt8) (w : World) (hd : DiskIs w b size safe v xs) (hsz : (size : Int) ≤ 140737488355328) (h1 : xs.length ≤ size) (hf : size < xs.length + k) :
    Calls Try.prog 8 #[.pointer (some ⟨b, 0, none⟩), .slice (some ⟨w.heap.size + 1, 0, none⟩) 1 1] ((w.alloc (.cells (madeCells #[.int .u8 0] k) 5)).alloc (.cells #[.slice (some ⟨w.heap.size, 0, none⟩) k k] 22))
      fun e w' => e = .returned (.int .i64 140) ∧ Kept [] w w' :=
  append_const_full b size safe v xs (List.replicate k 0) _ _ k w hd (by simp) (made_zero k) hsz h1 (by simpa using hf)

theorem bytes_z : (Value.int IntKind.u8 0).cells = #[.int .u8 0] := rfl

/-- The disk, all of it newer than w0. -/
def At (w0 w : World) (b size safe : Nat) (xs : List UInt8) : Prop := ∃ v, DiskIs w b size safe v xs ∧ w0.heap.size ≤ b ∧ (∀ k, v.ownBlock = some k → w0.heap.size ≤ k) ∧ Kept [] w0 w

theorem At.kept {w0 w : World} {b size safe : Nat} {xs : List UInt8} (h : At w0 w b size safe xs) : Kept [] w0 w := by obtain ⟨_, _, _, _, hk⟩ := h; exact hk
theorem At.then0 {w0 w w' : World} {b size safe : Nat} {xs : List UInt8} (h : At w0 w b size safe xs) (hk : Kept [] w w') : At w0 w' b size safe xs := by
  obtain ⟨v, hd, hb, hv, h0⟩ := h
  exact ⟨v, hd.kept hk (by simp) (by simp), hb, hv, h0.then0 hk⟩
theorem fresh_own {w0 w w' : World} {b : Nat} {v : Value} (hb : w0.heap.size ≤ b) (hv : ∀ k, v.ownBlock = some k → w0.heap.size ≤ k) (hk : Kept [] w0 w) (h2 : Kept (b :: v.ownBlock.toList) w w') : Kept [] w0 w' :=
  Kept.fresh hk h2 (by intro k hm; rcases List.mem_cons.1 hm with rfl | hm; exact hb; exact hv k (mem_own hm))

theorem at_sync {w0 w : World} {b size safe : Nat} {xs : List UInt8} (h : At w0 w b size safe xs) :
    Calls Try.prog 9 #[.pointer (some ⟨b, 0, none⟩)] w fun e w' => e = .returned (.tuple #[]) ∧ At w0 w' b size xs.length xs := by
  obtain ⟨v, hd, hb, hv, hk⟩ := h
  refine (sync_any _ _ _ _ _ _ hd).mono ?_
  rintro e w' ⟨rfl, h1, h2⟩
  exact ⟨rfl, v, h1, hb, hv, Kept.fresh hk h2 (by simpa using hb)⟩
theorem at_crash {w0 w : World} {b size safe : Nat} {xs : List UInt8} (k : Int) (h : At w0 w b size safe xs) (hs : safe ≤ xs.length) (hx : xs.length ≤ 9223372036854775807) :
    Calls Try.prog 10 #[.pointer (some ⟨b, 0, none⟩), .int .i64 k] w fun e w' => e = .returned (.tuple #[]) ∧ At w0 w' b size (left xs.length safe k) (xs.take (left xs.length safe k)) := by
  obtain ⟨v, hd, hb, hv, hk⟩ := h
  refine (crash_any _ _ _ k _ _ _ hd hs hx).mono ?_
  rintro e w' ⟨rfl, v', h1, h2, h3⟩
  exact ⟨rfl, v', h1, hb, by rw [h3]; exact hv, Kept.fresh hk h2 (by simpa using hb)⟩
theorem at_len {w0 w : World} {b size safe : Nat} {xs : List UInt8} (h : At w0 w b size safe xs) : Calls Try.prog 19 #[.pointer (some ⟨b, 0, none⟩)] w fun e w' => e = .returned (.int .i64 xs.length) ∧ w = w' := by
  obtain ⟨v, hd, _⟩ := h; exact len_any _ _ _ _ _ _ hd
theorem at_safe {w0 w : World} {b size safe : Nat} {xs : List UInt8} (h : At w0 w b size safe xs) : Calls Try.prog 12 #[.pointer (some ⟨b, 0, none⟩)] w fun e w' => e = .returned (.int .i64 safe) ∧ w = w' := by
  obtain ⟨v, hd, _⟩ := h; exact safe_any _ _ _ _ _ _ hd
theorem at_cut {w0 w : World} {b size safe : Nat} {xs : List UInt8} (n : Nat) (h : At w0 w b size safe xs) (hn : n ≤ xs.length) :
    Calls Try.prog 16 #[.pointer (some ⟨b, 0, none⟩), .int .i64 n] w fun e w' => e = .returned (.int .i64 0) ∧ At w0 w' b size (min safe n) (xs.take n) := by
  obtain ⟨v, hd, hb, hv, hk⟩ := h
  refine (cut_ok _ _ _ n _ _ _ hd hn).mono ?_
  rintro e w' ⟨rfl, v', h1, h2, h3⟩
  exact ⟨rfl, v', h1, hb, by rw [h3]; exact hv, Kept.fresh hk h2 (by simpa using hb)⟩
theorem at_cut_bad {w0 w : World} {b size safe : Nat} {xs : List UInt8} (n : Int) (h : At w0 w b size safe xs) (hn : n < 0 ∨ (xs.length : Int) < n) :
    Calls Try.prog 16 #[.pointer (some ⟨b, 0, none⟩), .int .i64 n] w fun e w' => e = .returned (.int .i64 2) ∧ At w0 w' b size safe xs := by
  have h' := h
  obtain ⟨v, hd, hb, hv, hk⟩ := h
  refine (cut_bad _ _ _ n _ _ _ hd hn).mono ?_
  rintro e w' ⟨rfl, h2⟩
  exact ⟨rfl, h'.then0 h2⟩
theorem at_bytes {w0 w : World} {b size safe : Nat} {xs : List UInt8} (h : At w0 w b size safe xs) (hx : xs.length ≤ 140737488355328) :
    Calls Try.prog 11 #[.pointer (some ⟨b, 0, none⟩)] w fun e w' => ∃ v', e = .returned v' ∧ Own w' 5 1 v' xs.length (bv xs) ∧ Kept [] w w' ∧ Near none w.heap.size v' := by
  obtain ⟨v, hd, _⟩ := h; exact bytes_any _ _ _ _ _ _ hd hx
theorem at_made_ok {w0 w : World} {b size safe : Nat} {xs : List UInt8} (k : Nat) (h : At w0 w b size safe xs) (hsz : (size : Int) ≤ 140737488355328) (hf : xs.length + k ≤ size) :
    Calls Try.prog 8 #[.pointer (some ⟨b, 0, none⟩), .slice (some ⟨w.heap.size + 1, 0, none⟩) 1 1] ((w.alloc (.cells (madeCells #[.int .u8 0] k) 5)).alloc (.cells #[.slice (some ⟨w.heap.size, 0, none⟩) k k] 22))
      fun e w' => e = .returned (.int .i64 0) ∧ At w0 w' b size safe (xs ++ List.replicate k 0) := by
  obtain ⟨v, hd, hb, hv, hk⟩ := h
  refine (append_made_ok _ _ _ k _ _ _ hd hsz hf).mono ?_
  rintro e w' ⟨rfl, v', h1, h2, h3⟩
  exact ⟨rfl, v', h1, hb, newer hv h3 hk.size, fresh_own hb hv hk h2⟩
theorem at_made_full {w0 w : World} {b size safe : Nat} {xs : List UInt8} (k : Nat) (h : At w0 w b size safe xs) (hsz : (size : Int) ≤ 140737488355328) (h1 : xs.length ≤ size) (hf : size < xs.length + k) :
    Calls Try.prog 8 #[.pointer (some ⟨b, 0, none⟩), .slice (some ⟨w.heap.size + 1, 0, none⟩) 1 1] ((w.alloc (.cells (madeCells #[.int .u8 0] k) 5)).alloc (.cells #[.slice (some ⟨w.heap.size, 0, none⟩) k k] 22))
      fun e w' => e = .returned (.int .i64 140) ∧ At w0 w' b size safe xs := by
  have h' := h
  obtain ⟨v, hd, hb, hv, hk⟩ := h
  refine (append_made_full _ _ _ k _ _ _ hd hsz h1 hf).mono ?_
  rintro e w' ⟨rfl, h2⟩
  exact ⟨rfl, h'.then0 h2⟩

theorem at_const_full {w0 w : World} {b size safe : Nat} {xs : List UInt8} (ys : List UInt8) (cs : Array Value) (fr : Nat × Nat) (n : Nat) (h : At w0 w b size safe xs) (hn : n = ys.length) (hx : cs.toList = bv ys)
    (hsz : (size : Int) ≤ 140737488355328) (h1 : xs.length ≤ size) (hf : size < xs.length + ys.length) :
    Calls Try.prog 8 #[.pointer (some ⟨b, 0, none⟩), .slice (some ⟨w.heap.size + 1, 0, none⟩) 1 1] ((w.alloc (.cells cs 5 fr)).alloc (.cells #[.slice (some ⟨w.heap.size, 0, none⟩) n n] 22))
      fun e w' => e = .returned (.int .i64 140) ∧ At w0 w' b size safe xs := by
  have h' := h
  obtain ⟨v, hd, hb, hv, hk⟩ := h
  refine (append_const_full _ _ _ _ _ ys cs fr n _ hd hn hx hsz h1 hf).mono ?_
  rintro e w' ⟨rfl, h2⟩
  exact ⟨rfl, h'.then0 h2⟩

set_option maxRecDepth 100000 in
set_option maxHeartbeats 2000000 in
theorem room_walk (v : Value) (size : Int) (ps : List UInt8) (w : World) (hp : Rd w 1 v ps.length (bv ps)) (hn : ps.length ≤ 9223372036854775807) :
    Calls Try.prog 5 #[.int .i64 size, v] w fun e w' => e = .returned (.bool true) ∧ Kept [] w w' := by
  have hP := Lib.hid hp
  obtain ⟨A, c, rfl, _, _, _⟩ := hp
  go_enter Try.func5, Try.ntmps5
  go_wp2_with (go_at_call 6; refine (first_true _).mono ?_; rintro e w1 ⟨rfl, k1⟩)
  obtain ⟨n, hn1, hn2⟩ := room_n size
  rw [hn1]
  clear hn1
  refine (new_pos n _ (by omega)).mono ?_
  rintro e w' ⟨rfl, rfl⟩
  go_wp2
  go_loopw [8, 28] (fun u i wr => ∃ k safe : Nat, ∃ l : List UInt8, k ≤ ps.length ∧ i = .int .i64 k ∧ u = .int .i64 l.length ∧ At w1 wr w1.heap.size n safe l ∧ safe ≤ l.length ∧ l.length ≤ n) (fun _ i _ => ps.length - (intOf i).toNat)
  case atStart => exact ⟨0, 0, [], Nat.zero_le _, rfl, rfl, ⟨_, new_is w1 n, Nat.le_refl _, by simp [Value.ownBlock], (Kept.refl _ _).alloc _⟩, Nat.le_refl _, Nat.zero_le _⟩
  case round =>
    obtain ⟨k, safe, l, hk, rfl, rfl, hat, h1, h2⟩ := hrel
    have hat := Lib.hid hat
    have hmk := fun m hm => run_mk (P := Try.prog) bytesT m (by rw [Nat.one_mul]; exact hm) (Nat.le_trans hm (by omega))
    rw [bytes_z] at hmk
    by_cases hlt : k < ps.length ∧ k < 60
    · obtain ⟨hlt, h60⟩ := hlt
      have hp2 := hP.out.kept0 (k1.then0 hat.out.kept)
      obtain ⟨pb, po, pc, heq, _, hcell⟩ := hp2.at_ (by omega)
      cases heq
      have hcl := hcell k (byteV ps[k]) (by simp [hlt])
      clear hcell hp2
      generalize ps[k] = p at *
      unfold byteV at hcl
      have hp0 : (0 : Int) ≤ p.toNat := by omega
      have hp1 : (p.toNat : Int) ≤ 255 := by have := p.toNat_lt; omega
      obtain ⟨kk, hkk, hkk2⟩ : ∃ kk : Nat, (p.toNat : Int) % 40 = kk ∧ kk < 40 := ⟨p.toNat % 40, by omega, by omega⟩
      have hmk2 := hmk kk (by omega)
      clear hmk
      by_cases hroom : (l.length : Int) + kk ≤ n
      · go_wp2_with fail
        refine (at_made_ok kk hat.out (by omega) (by omega)).mono ?_
        rintro e w2 ⟨rfl, hat2⟩
        have hat3 := Lib.hid hat2
        clear hat2
        go_wp2_with (go_at_call 19; refine (at_len hat3.out).mono ?_; rintro e w3 ⟨rfl, rfl⟩)
        have hl : (l ++ List.replicate kk 0).length = l.length + kk := by simp
        go_roundw
        case rel => exact ⟨k + 1, safe, _, by omega, by go_num, by rw [hl]; go_num, hat3.out, by omega, by omega⟩
        case measure => simp [intOf]; omega
      · go_wp2_with fail
        refine (at_made_full kk hat.out (by omega) (by omega) (by omega)).mono ?_
        rintro e w2 ⟨rfl, hat2⟩
        have hat3 := Lib.hid hat2
        clear hat2
        go_wp2_with fail
        refine (at_crash 0 hat3.out h1 (by omega)).mono ?_
        rintro e w3 ⟨rfl, hat4⟩
        obtain ⟨ys, hys, hat5⟩ : ∃ ys : List UInt8, ys.length = safe ∧ At w1 w3 w1.heap.size n ys.length ys := by
          have hl : left l.length safe 0 = safe := by unfold left; omega
          rw [hl] at hat4
          have hl2 : (l.take safe).length = safe := by simp; omega
          exact ⟨_, hl2, by rw [hl2]; exact hat4⟩
        have hyl : ys.length ≤ n := by omega
        clear hat4 hat3
        have hat6 := Lib.hid hat5
        clear hat5 hys
        go_wp2_with fail
        refine (at_safe hat6.out).mono ?_
        rintro e w' ⟨rfl, rfl⟩
        go_wp2_with fail
        refine (at_len hat6.out).mono ?_
        rintro e w' ⟨rfl, rfl⟩
        go_wp2_with fail
        refine (at_sync hat6.out).mono ?_
        rintro e w4 ⟨rfl, hat7⟩
        have hat8 := Lib.hid hat7
        clear hat7
        go_wp2_with fail
        refine (at_len hat8.out).mono ?_
        rintro e w' ⟨rfl, rfl⟩
        go_wp2_with fail
        refine (at_len hat8.out).mono ?_
        rintro e w' ⟨rfl, rfl⟩
        go_wp2_with fail
        go_roundw
        case rel => exact ⟨k + 1, _, ys, by omega, by go_num, rfl, hat8.out, Nat.le_refl _, by omega⟩
        case measure => simp [intOf]; omega
    · have hmk2 := hmk n (by omega)
      clear hmk
      have hend : k < ps.length → ∃ pb po x, A = some ⟨pb, po, none⟩ ∧ wr.cell? ⟨pb, po + k, none⟩ = some (.int .u8 x) := by
        intro hk2
        have hp2 := hP.out.kept0 (k1.then0 hat.out.kept)
        obtain ⟨pb, po, pc, heq, _, hcell⟩ := hp2.at_ (by omega)
        cases heq
        exact ⟨pb, po, _, rfl, hcell k (byteV ps[k]) (by simp [hk2])⟩
      have hcase : (k < ps.length ∧ ¬ k < 60 ∧ ∃ pb po x, A = some ⟨pb, po, none⟩ ∧ wr.cell? ⟨pb, po + k, none⟩ = some (.int .u8 x)) ∨ ¬ k < ps.length := by
        by_cases hlt2 : k < ps.length
        · exact .inl ⟨hlt2, fun h => hlt ⟨hlt2, h⟩, hend hlt2⟩
        · exact .inr hlt2
      clear hlt hend
      rcases hcase with ⟨hlt2, h60, pb, po, x, rfl, hcl⟩ | hlt2
      all_goals
        go_wp2_with fail
        refine (at_cut 0 hat.out (Nat.zero_le _)).mono ?_
        rintro e w2 ⟨rfl, hat2⟩
        have hat3 : At w1 w2 w1.heap.size n 0 [] := by simpa using hat2
        clear hat2
        have hat4 := Lib.hid hat3
        clear hat3
        go_wp2_with fail
        refine (at_len hat4.out).mono ?_
        rintro e w' ⟨rfl, rfl⟩
        go_wp2_with fail
        refine (at_made_ok n hat4.out (by omega) (by simp)).mono ?_
        rintro e w3 ⟨rfl, hat5⟩
        have hat6 := Lib.hid hat5
        clear hat5
        go_wp2_with fail
        refine (at_const_full [1] #[.int .u8 1] (0, 0) 1 hat6.out rfl rfl (by omega) (by simp) (by simp)).mono ?_
        rintro e w4 ⟨rfl, hat7⟩
        go_wp2
        go_ret
        exact ⟨rfl, k1.then0 hat7.kept⟩

theorem room_law (size : Int) (v : Value) (ps : List UInt8) (w : World) (_ : (Lit.int .i64 size).wf = true) (hp : Rd w 1 v ps.length (bv ps)) (hn : ps.length ≤ 9223372036854775807) :
    Calls Try.prog 5 #[.int .i64 size, v] w fun e w' => e = .returned (.bool true) ∧ Kept [] w w' := room_walk v size ps w hp hn

end Go.Proofs.Ytfdioobkbdgbmaa
