/-
  Slots: a vote that counts.
-/
import Derived.Test.YthffkgnbgncfaaaSt9
namespace Go.Proofs.Ythffkgnbgncfaaa
open Go.RowKit Go.Mem Go.Txt

set_option maxRecDepth 100000 in
set_option maxHeartbeats 1600000 in
theorem add_yes {g : Nat} {f : Int} {l : List Vt} {v : Value} {w : World} (t : Tl w g f l v) (hf : 0 ≤ f ∧ f ≤ 1000000) {x : Vt} (hx : x.ok) (hn : l.length + 1 < 1099511627776) (hyes : okv f l x = true) :
    Calls Try.prog 8 #[.pointer (some ⟨g, 0, none⟩), .int .i64 x.fr, .int .i64 x.vw, ab x.h, ab x.s] w (AddP w g f l v x) := by
  have ea : addv f l x = insv l x := by unfold addv; rw [hyes]; rfl
  have hy := hyes
  unfold okv at hy
  simp only [Bool.and_eq_true, decide_eq_true_eq, Bool.not_eq_true'] at hy
  obtain ⟨h1, h2, h3⟩ := hy
  have hgo : v.ownBlock ≠ some g := t.o.blk_ne t.b (by decide)
  have glt := t.b.lt
  have fin : ∀ w' v', Blk w' g 58 #[.int .i64 f, v'] → Ow w' 63 98 v' (l.length + 1) (vcs (insv l x)) → Kept (g :: v.ownBlock.toList) w w' → (v'.ownBlock = v.ownBlock ∨ ∃ k, v'.ownBlock = some k ∧ w.heap.size ≤ k) → AddP w g f l v x (.returned (.bool true)) w' := fun w' v' hb ho hk hv =>
    ⟨by rw [hyes], v', by rw [ea]; exact ⟨hb, by rw [insv_len]; exact ho, fun u hu => by rcases mem_insv.1 hu with rfl | hu; exact hx; exact t.ok u hu, insv_srt t.srt h3, by rw [insv_len]; exact hn⟩, hk, hv⟩
  have cf := Lib.hid (fun u (t : Tl u g f l v) => (by have := find_any t x.fr x.vw; rw [hits_key, h3, cnt_key] at this; exact this : Calls Try.prog 19 #[.pointer (some ⟨g, 0, none⟩), .int .i64 x.fr, .int .i64 x.vw] u fun e w' => e = .returned (.tuple #[.int .i64 (cnt l x : Nat), .bool false]) ∧ Kept [] u w'))
  have hins := Lib.hid (fun u (ho : Ow u 63 98 v l.length (vcs l)) g5 (hb : Blk u g5 63 x.c.toArray) (hne : v.ownBlock ≠ some g5) => insert_any t.ok hx (by omega) (cnt_le l x) ho hb hne)
  have hin : ∀ k n xs, vcs (insv l x) = xs → l.length + 1 = n → (vcs (l.take k ++ x :: l.drop k) = xs ∨ True) := fun _ _ _ _ _ => .inr trivial
  clear hin
  have kb := Lib.hid (add_built x hx)
  have lx := Vt.len hx
  obtain ⟨hh, hs⟩ := hx
  obtain ⟨A, c, rfl, hnc⟩ := t.o.shape
  replace fin := Lib.hid fin
  obtain ⟨hf1, hf2⟩ := hf
  have t2 := Lib.hid t
  have h4 : ¬ x.fr < 0 := by omega
  have h5 : ¬ 3 * f < x.fr := by omega
  replace hh := Lib.hid hh
  replace hs := Lib.hid hs
  replace lx := Lib.hid lx
  replace hgo := Lib.hid hgo
  replace glt := Lib.hid glt
  clear t ea hyes h1 h2 h3
  have eins : insv l x = l.take (cnt l x) ++ x :: l.drop (cnt l x) := rfl
  rw [← eins] at hins
  clear eins
  generalize insv l x = L2 at *
  generalize cnt l x = cx at *
  generalize hfr : x.fr = fr at *
  generalize hvw : x.vw = vw at *
  clear hfr hvw
  go_enter Try.func8, Try.ntmps8
  go_wp2_with (first
    | ((with_reducible refine wpl_box (o := ⟨some 8, _, _, _, _, _⟩) (v := ab x.h) rfl (.tmp 3) rfl rfl ?_); intro g8 w8 m8)
    | ((with_reducible refine wpl_box (o := ⟨some 9, _, _, _, _, _⟩) (v := ab x.s) rfl (.tmp 4) rfl rfl ?_); intro g9 w9 m9
       have K := Lib.hid (m8.kept.then0 m9.kept)
       have M := Lib.hid (show AdM g g8 g9 f (.slice A l.length c) x w9 from ⟨t2.out.b.kept K.out (by simp), m8.blk.kept m9.kept (by simp), m9.blk⟩)
       have n1 := Lib.hid (show w.heap.size ≤ g8 ∧ w.heap.size ≤ g9 from ⟨m8.le, Nat.le_trans m8.kept.size m9.le⟩)
       clear m8 m9
       have t3 := Lib.hid (t2.out.kept K.out)
       have q0 := t3.out.f0)
    | (go_at_call 19; (with_reducible refine (cf.out _ t3.out).mono ?_); rintro e v ⟨rfl, kk⟩; replace K := Lib.hid (K.out.then0 kk); replace M := Lib.hid (M.out.kept0 kk); replace t3 := Lib.hid (t3.out.kept kk); clear kk q0))
  replace K := Lib.hid (K.out.drew)
  replace M := Lib.hid (M.out.kept0 (Kept.refl [] _).drew)
  replace t3 := Lib.hid (t3.out.kept (Kept.refl [] _).drew)
  refine Txt.wp_textL [4, 8, 9] (AdM g g8 g9 f (.slice A l.length c) x) [_, _, _, _, _, _, _, _, _, _, _, _, _, _, _] _ rfl [[_, _, _, _, _, _, _, _, _, _, _], [_], [_], [_, _]] (by kernel_rfl) (by kernel_rfl) (by kernel_rfl) rfl M.out (Txt.segs_cons ?_)
  have q1 := t3.out.f1
  go_wp2_with (first
    | ((with_reducible refine wpl_load_row (o := ⟨some 44, _, _, _, _, _⟩) hashT.row rfl (.tmp 8) rfl rfl M.out.h (by simp [hh.out]) ?_))
    | ((with_reducible refine wpl_load_row (o := ⟨some 45, _, _, _, _, _⟩) sigT.row rfl (.tmp 9) rfl rfl M.out.s (by simp [hs.out]) ?_))
    | ((with_reducible refine wpl_build4 (o := ⟨some 46, _, _, _, _, _⟩) (v := .int .i64 fr) (u := .int .i64 vw) (v2 := ab x.h) (u2 := ab x.s) rfl 0 1 2 3 (.tmp 42) (.tmp 43) (.tmp 44) (.tmp 45) rfl rfl rfl rfl rfl kb.out ?_)))
  refine ⟨rfl, M.out, Txt.segs_cons ?_⟩
  go_wp2_with (first
    | ((refine wpl_bslice1 (o := ⟨some 47, _, _, _, _, _⟩) (v0 := x.v) (cells := x.c.toArray) rfl votesT rfl rfl (by decide) rfl (by simpa using lx.out) ?_); intro g5 w5 m5
       have B5 := Lib.hid m5.blk
       have n5 := Lib.hid m5.le
       replace K := Lib.hid (K.out.then0 m5.kept)
       have O5 := Lib.hid (t3.out.o.kept0 m5.kept)
       have nb := Lib.hid (show (Value.slice A l.length c).ownBlock ≠ some g5 from fun e => by have := t3.out.o.lt e; have := n5.out; omega)
       replace M := Lib.hid (M.out.kept0 m5.kept)
       clear m5 t3 q1))
  refine ⟨rfl, M.out, Txt.segs_cons ?_⟩
  go_wp2_with (first
    | (go_at_call 20; (with_reducible refine (hins.out _ O5.out g5 B5.out nb.out).mono ?_); rintro e w6 ⟨v', rfl, o6, k6, v6⟩
       have hM : AdM g g8 g9 f (.slice A l.length c) x w6 := M.out.kept k6 (notin_own hgo.out) (notin_own fun e => by have h1 := (t2.out.o.lt e); have := n1.out.1; omega) (notin_own fun e => by have h1 := (t2.out.o.lt e); have := n1.out.2; omega)
       have M6 := Lib.hid hM
       have K6 := Lib.hid k6
       have O6 := Lib.hid o6
       have V6 := Lib.hid v6
       obtain ⟨A', c', hv', hnc'⟩ := o6.shape
       subst hv'
       clear o6 k6 v6 hM M O5 B5 nb))
  refine ⟨rfl, M6.out, Txt.segs_cons ?_⟩
  go_wp2_with fail
  refine ⟨rfl, M6.out, Txt.segs_nil ⟨⟨by kernel_rfl, ?_⟩, ?_⟩⟩
  · intro j hj o ho hw
    have hj2 : j = 4 ∨ j = 8 ∨ j = 9 := by simpa using hj
    rcases hj2 with rfl | rfl | rfl <;> cases ho
    · exact ⟨_, rfl, fun u hu => exec_cell (.tmp 39) rfl flatV rfl (by rw [hu.b.cell]; rfl)⟩
    · exact ⟨_, rfl, fun u hu => exec_load hashT.row (.tmp 8) rfl rfl hu.h (by simp [hh.out])⟩
    · exact ⟨_, rfl, fun u hu => exec_load sigT.row (.tmp 9) rfl rfl hu.s (by simp [hs.out])⟩
  have q2 : w6.cell? ⟨g, 1, none⟩ = some (.slice A l.length c) := by rw [M6.out.b.cell]; rfl
  have q3 := M6.out.b.frozen 1
  go_wp2_with fail
  go_ret
  refine fin.out _ _ (M6.out.b.set_ 1 _) (O6.out.setCell (p := ⟨g, 1, none⟩) (O6.out.blk_ne M6.out.b (by decide)) _) ((((K.out.of0 (S := g :: (Value.slice A l.length c).ownBlock.toList)).trans' (K6.out.more (by intro k _ hk; exact List.mem_cons_of_mem _ hk))).setCell (.inl (by simp)) _)) ?_
  rcases V6.out with h | ⟨k, h, hk⟩
  · exact .inl h
  · exact .inr ⟨k, h, Nat.le_trans K.out.size hk⟩
/-- A vote is added. -/
theorem add_any {g : Nat} {f : Int} {l : List Vt} {v : Value} {w : World} (t : Tl w g f l v) (hf : 0 ≤ f ∧ f ≤ 1000000) {x : Vt} (hx : x.ok) (hn : l.length + 1 < 1099511627776) :
    Calls Try.prog 8 #[.pointer (some ⟨g, 0, none⟩), .int .i64 x.fr, .int .i64 x.vw, ab x.h, ab x.s] w (AddP w g f l v x) := by
  cases h : okv f l x with
  | false => exact add_no t hf x h
  | true => exact add_yes t hf hx hn h
end Go.Proofs.Ythffkgnbgncfaaa
