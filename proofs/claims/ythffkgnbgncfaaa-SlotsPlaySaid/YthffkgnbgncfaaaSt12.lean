/-
  Slots: a new tally; how many said it; is it a quorum; views forgotten.
-/
import Derived.Test.YthffkgnbgncfaaaSt11
namespace Go.Proofs.Ythffkgnbgncfaaa
open Go.RowKit Go.Mem Go.Txt

theorem tally_gen (f : Int) : Try.prog.built 58 [(0, .int .i64 f)] = some #[.int .i64 f, .slice none 0 0] := by kernel_rfl
theorem srt_nil : Srt [] := List.Pairwise.nil
set_option maxRecDepth 100000 in
set_option maxHeartbeats 800000 in
theorem new_ok (f : Int) (hf : 0 ≤ f ∧ f ≤ 2) (w : World) :
    Calls Try.prog 7 #[.int .i64 f] w fun e w' => ∃ g, e = .returned (.tuple #[.pointer (some ⟨g, 0, none⟩), .int .i64 0]) ∧ Tl w' g f [] (.slice none 0 0) ∧ Kept [] w w' ∧ w.heap.size ≤ g := by
  obtain ⟨h1, h2⟩ := hf
  have h3 : ¬ f < 0 := by omega
  have h4 : ¬ 2 < f := by omega
  have kb := Lib.hid (tally_gen f)
  go_enter Try.func7, Try.ntmps7
  go_wp2_with (first
    | ((with_reducible refine wpl_build1 (o := ⟨some 11, _, _, _, _, _⟩) (v := .int .i64 f) rfl 0 (.tmp 10) rfl rfl kb.out ?_))
    | ((with_reducible refine wpl_box (o := ⟨some 12, _, _, _, _, _⟩) (v := .agg #[.int .i64 f, .slice none 0 0]) rfl (.tmp 11) rfl rfl ?_); intro g2 w2 m2
       have b := Lib.hid m2.blk
       have k := Lib.hid m2.kept
       have l := Lib.hid m2.le
       clear m2))
  go_ret2
  exact ⟨g2, rfl, ⟨b.out, Ow.nil _ _ _, by simp, srt_nil, by simp⟩, k.out, l.out⟩
set_option maxHeartbeats 800000 in
theorem new_no (f : Int) (hf : f < 0 ∨ 2 < f) (w : World) :
    Calls Try.prog 7 #[.int .i64 f] w fun e w' => e = .returned (.tuple #[.pointer none, .int .i64 2]) ∧ Kept [] w w' := by
  have k := Lib.hid (Kept.refl [] w)
  rcases hf with h | h
  · go_enter Try.func7, Try.ntmps7
    go_wp2_with fail
    go_ret2
    exact ⟨rfl, k.out⟩
  · have h2 : ¬ f < 0 := by omega
    go_enter Try.func7, Try.ntmps7
    go_wp2_with fail
    go_ret2
    exact ⟨rfl, k.out⟩
set_option maxRecDepth 100000 in
set_option maxHeartbeats 800000 in
theorem count_any {tv : Value} {vw : Int} {m : List Vt} {w : World} (F : Ofs w tv vw m) {h : List UInt8} (hh : h.length = 32) :
    Calls Try.prog 11 #[tv, .int .i64 vw, ab h] w fun e w' => e = .returned (.int .i64 ((saidv m h).length : Nat)) ∧ Kept [] w w' := by
  have F2 := Lib.hid F
  have hh2 := Lib.hid hh
  clear F hh
  go_enter Try.func11, Try.ntmps11
  go_wp2_with (first
    | ((with_reducible refine wpl_box (o := ⟨some 5, _, _, _, _, _⟩) (v := ab h) rfl (.tmp 2) rfl rfl ?_); intro g5 w5 m5
       have b5 := Lib.hid (show Blk w5 g5 30 (bv h).toArray from m5.blk)
       have K := Lib.hid m5.kept
       clear m5)
    | ((with_reducible refine wpl_load_row (o := ⟨some 9, _, _, _, _, _⟩) hashT.row rfl (.tmp 5) rfl rfl b5.out (by simp [hh2.out]) ?_))
    | (go_at_call 10; (with_reducible refine (shares_any (F2.out.kept K.out) hh2.out).mono ?_); rintro e w6 ⟨v, rfl, o, k, _⟩
       obtain ⟨A, c, rfl, _⟩ := o.shape
       replace K := Lib.hid (K.out.then0 k)
       clear o k))
  go_ret
  exact ⟨rfl, K.out⟩
set_option maxRecDepth 100000 in
set_option maxHeartbeats 800000 in
theorem full_nil (vw : Int) (h : List UInt8) (w : World) :
    Calls Try.prog 16 #[.pointer none, .int .i64 vw, ab h] w fun e w' => e = .returned (.bool false) ∧ Kept [] w w' := by
  go_enter Try.func16, Try.ntmps16
  go_wp2_with (first
    | ((with_reducible refine wpl_box (o := ⟨some 5, _, _, _, _, _⟩) (v := ab h) rfl (.tmp 2) rfl rfl ?_); intro g5 w5 m5
       have K := Lib.hid m5.kept
       clear m5))
  refine Txt.wp_textG [10] (fun _ => True) [[_, _, _, _, _, _, _], [_, _, _, _, _, _, _, _]] (by kernel_rfl) (by kernel_rfl) rfl trivial (Txt.segs_cons ?_)
  go_wp2_with fail
  refine ⟨rfl, trivial, Txt.segs_cons ?_⟩
  go_wp2_with fail
  refine ⟨rfl, trivial, Txt.segs_nil ⟨⟨by kernel_rfl, ?_⟩, ?_⟩⟩
  · intro j hj o ho hw
    have hj2 : j = 10 := by simpa using hj
    subst hj2
    cases ho
    exact Bool.noConfusion (Eq.trans (by kernel_rfl) hw : false = true)
  go_wp2_with fail
  go_ret
  exact ⟨rfl, K.out.drew⟩
theorem flatInt (w : World) : (isAgg 3).run Try.prog w = .ok false w := by kernel_rfl
set_option maxRecDepth 100000 in
set_option maxHeartbeats 800000 in
theorem full_any {g : Nat} {f : Int} {l : List Vt} {v : Value} {w : World} (t : Tl w g f l v) (hf : 0 ≤ f ∧ f ≤ 1000000) (hi : inR f l) (vw : Int) {h : List UInt8} (hh : h.length = 32) :
    Calls Try.prog 16 #[.pointer (some ⟨g, 0, none⟩), .int .i64 vw, ab h] w fun e w' => e = .returned (.bool (decide (2 * f < ((saidv (ofv l vw) h).length : Nat)))) ∧ Kept [] w w' := by
  have F := t.ofs hf hi vw
  have cc := Lib.hid (fun u (hk : Kept [] w u) => count_any (F.kept hk) hh)
  have t2 := Lib.hid t
  have hh2 := Lib.hid hh
  obtain ⟨hf1, hf2⟩ := hf
  clear F t hh hi
  generalize (saidv (ofv l vw) h).length = n at *
  go_enter Try.func16, Try.ntmps16
  go_wp2_with (first
    | ((with_reducible refine wpl_box (o := ⟨some 5, _, _, _, _, _⟩) (v := ab h) rfl (.tmp 2) rfl rfl ?_); intro g5 w5 m5
       have K := Lib.hid m5.kept
       have b5 := Lib.hid (show Blk w5 g5 30 (bv h).toArray from m5.blk)
       clear m5))
  refine Txt.wp_textG [10] (fun u => Kept [] w u) [[_, _, _, _, _, _, _], [_, _, _, _, _, _, _, _]] (by kernel_rfl) (by kernel_rfl) rfl K.out.drew (Txt.segs_cons ?_)
  replace b5 := Lib.hid b5.out.drew
  replace K := Lib.hid K.out.drew
  go_wp2_with (first
    | ((refine wpl_load_row (o := ⟨some 12, _, _, _, _, _⟩) hashT.row rfl (.tmp 5) rfl rfl b5.out (by simp [hh2.out]) ?_))
    | (go_at_call 11; (with_reducible refine (cc.out _ K.out).mono ?_); rintro e w6 ⟨rfl, k⟩
       replace K := Lib.hid (K.out.then0 k)
       clear k))
  refine ⟨rfl, K.out, Txt.segs_cons ?_⟩
  have q0 := (t2.out.kept K.out).f0
  go_wp2_with fail
  refine ⟨rfl, K.out, Txt.segs_nil ⟨⟨by kernel_rfl, ?_⟩, ?_⟩⟩
  · intro j hj o ho hw
    have hj2 : j = 10 := by simpa using hj
    subst hj2
    cases ho
    exact ⟨_, rfl, fun u hu => exec_cell (.tmp 16) rfl flatInt rfl (t2.out.kept hu).f0⟩
  go_wp2_with fail
  go_ret
  exact ⟨rfl, K.out⟩
end Go.Proofs.Ythffkgnbgncfaaa
