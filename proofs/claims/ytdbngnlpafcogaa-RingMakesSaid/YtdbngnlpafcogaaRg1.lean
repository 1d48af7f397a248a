/-
  The ring: what is signed, Owned, Seal; parts joined; a part written with its length.
-/
import Derived.Test.YtdbngnlpafcogaaSg7
import Derived.Test.YtdbngnlpafcogaaWb0
namespace Go.Proofs.Ytdbngnlpafcogaa
open Go.RowKit Go.Mem Go.Txt

/-- Bytes with their number ahead. -/
def form (x : List UInt8) : List UInt8 := be8 x.length ++ x
theorem wbytes_any (b x : Value) (bs xs : List UInt8) (w : World) (hr : Rd w 1 b bs.length (bv bs)) (hx : Rd w 1 x xs.length (bv xs)) (hb : bs.length + xs.length ≤ 140737488355320) :
    Calls Try.prog 87 #[b, x] w fun e w' => ∃ v', e = .returned v' ∧ New w w' v' (bs ++ form xs) := by
  have hr2 := Lib.hid hr
  have hx2 := Lib.hid hx
  obtain ⟨A, c, rfl, _, _, _⟩ := hx
  have hl : (bs ++ be8 xs.length).length = bs.length + 8 := by rw [List.length_append, be8_len]
  have hl2 := Lib.hid hl
  clear hr hl
  go_enter Try.func87, Try.ntmps87
  go_wp2_with (first
    | (go_at_call 56; refine (number_any _ bs xs.length w hr2.out (by omega) (by omega)).mono ?_; rintro e w1 ⟨ov, rfl, hn⟩; obtain ⟨OA, oc, hov, _⟩ := hn.ow.shape; rw [hl2.out] at hov; subst hov; have hn2 := Lib.hid hn; clear hn)
    | (at_builtin; refine wpl_app bytesT rfl (.tmp 9) (.tmp 10) rfl rfl hn2.out.ow rfl (hx2.out.kept0 hn2.out.kept) (one_bv _) ?_ ?_ ?_))
  case refine_1 => rw [hl2.out]; omega
  case refine_2 => rw [hl2.out]; omega
  intro v' w2 hown hk2 hb2
  have hn3 : New w w2 v' (bs ++ form xs) := hn2.out.step (by
    have e : bs ++ form xs = (bs ++ be8 xs.length) ++ xs := by simp [form]
    rw [e, List.length_append]
    simpa [bv] using hown) hk2 hn2.out.old (by
    rcases hb2 with h | h
    · exact .inl h
    · exact .inr ⟨_, h, hn2.out.kept.size⟩)
  clear hown hk2 hb2
  go_wp2_with fail
  go_ret
  exact ⟨_, rfl, hn3⟩
theorem wjoin_any (pv : Value) (ps : List (Value × List UInt8)) (w : World) (hp : Parts w pv ps) (hn : ps.length ≤ 9223372036854775807) (hl : (joined ps).length ≤ 140737488355328) :
    Calls Try.prog 50 #[pv] w fun e w' => ∃ v', e = .returned v' ∧ New w w' v' (joined ps) := by
  go_enter Try.func50, Try.ntmps50
  go_wp2_with (go_at_call 86; refine (concat_any pv ps _ hp hn hl).mono ?_; rintro e w1 ⟨v, rfl, h⟩)
  go_ret
  exact ⟨_, rfl, h⟩
/-- What is signed. -/
def whatB (tag : UInt8) (body : List UInt8) : List UInt8 := [119, 105, 116, 97, 110, tag] ++ form body
@[go_sem] theorem run_const_b (w : World) (C : Array Value) (m n c : Nat) (hm : m = w.heap.size) : (convert 23 23 (.slice (some ⟨m, 0, none⟩) n c)).run Try.prog (w.alloc (.cells C 5)) = .ok (.slice (some ⟨m, 0, none⟩) n c) (w.alloc (.cells C 5 (C.size, C.size + 1))) :=
  run_const Try.underlying23 Try.underlying5 w C m n c hm
theorem lit_rd {w : World} (xs : List UInt8) (n g c : Nat) (cs : Array Value) (hg : g = w.heap.size) (hn : xs.length = n) (hc : n ≤ c) (h : cs.toList.take n = bv xs) : Rd (w.alloc (.cells cs 5)).drew 1 (.slice (some ⟨g, 0, none⟩) n c) n (bv xs) := by
  subst hg
  refine ⟨_, _, rfl, by simp [hn], hc, fun _ => ⟨_, 0, rfl, fun j u hu => ?_⟩⟩
  have hb : Blk (w.alloc (.cells cs 5)).drew w.heap.size 5 cs := (Blk.new w _ cs).drew
  rw [hb.cell, Nat.zero_add]
  rw [← h, List.getElem?_take] at hu
  split at hu
  · simpa using hu
  · cases hu
set_option maxRecDepth 100000 in
set_option maxHeartbeats 1600000 in
theorem what_any (tag : UInt8) (v : Value) (body : List UInt8) (w : World) (hx : Rd w 1 v body.length (bv body)) (hb : body.length ≤ 140737488351232) :
    Calls Try.prog 51 #[.int .u8 (tag.toNat : Int), v] w fun e w' => ∃ v', e = .returned v' ∧ New w w' v' (whatB tag body) := by
  have hx2 := Lib.hid hx
  have hb2 := Lib.hid hb
  obtain ⟨A, c, rfl, _, _, _⟩ := hx
  clear hb
  go_enter Try.func51, Try.ntmps51
  go_wp2_with (go_at_call 87
               have hcap := grownCap_ge w 6 5 5
               unfold grownCap at hcap
               have kk := ((((Kept.refl [] w).alloc (.cells #[.int .u8 119, .int .u8 105, .int .u8 116, .int .u8 97, .int .u8 110] 5 (5, 6))).alloc (.cells #[.int .u8 tag.toNat] 5)))
               generalize hw2 : (w.alloc (.cells #[.int .u8 119, .int .u8 105, .int .u8 116, .int .u8 97, .int .u8 110] 5 (5, 6))).alloc (.cells #[.int .u8 tag.toNat] 5) = w2 at *
               have hsz : w.heap.size + 1 + 1 = w2.heap.size := by rw [← hw2]; simp
               refine (wbytes_any _ _ [119, 105, 116, 97, 110, tag] body _ (lit_rd (w := w2) [119, 105, 116, 97, 110, tag] 6 _ _ _ hsz rfl hcap (by simp [bv, byteV])) (hx2.out.kept0 (kk.alloc _).drew) (by have := hb2.out; simp; omega)).mono ?_
               rintro e w' ⟨v', rfl, hn⟩
               have H := Lib.hid (New.next (show New w _ (.slice none 0 0) [] from ⟨Ow.nil _ _ _, (kk.alloc _).drew, .inl rfl⟩) hn)
               clear hn kk hcap hsz hw2)
  go_ret
  exact ⟨_, rfl, H.out⟩
end Go.Proofs.Ytdbngnlpafcogaa
