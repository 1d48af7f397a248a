/-
  The log: the sum of a row.
-/
import Derived.Test.YtjdfnhfankcodaaSh5
import Derived.Test.YtjdfnhfankcodaaLit
import Derived.Test.YtjdfnhfankcodaaWr1
namespace Go.Proofs.Ytjdfnhfankcodaa
open Go.RowKit Go.Mem Go.Txt

theorem slicesT : SliceT Try.prog 32 22 1 24 (.slice none 0 0) := ⟨Try.underlying32, by kernel_rfl, rfl, by omega⟩
/-- The sum of row i. -/
def rsum (i : Nat) (body : List UInt8) : List UInt8 := (sha ([6] ++ (be8 i ++ body))).take 8
theorem rsum_len (i : Nat) (body : List UInt8) : (rsum i body).length = 8 := by simp [rsum, sha_len]
theorem parts3 {w : World} {g : Nat} {t : TypeId} {v0 v1 v2 : Value} {x0 x1 x2 : List UInt8} (hb : Blk w g t #[v0, v1, v2]) (h0 : Rd w 1 v0 x0.length (bv x0)) (h1 : Rd w 1 v1 x1.length (bv x1)) (h2 : Rd w 1 v2 x2.length (bv x2)) :
    Parts w (.slice (some ⟨g, 0, none⟩) 3 3) [(v0, x0), (v1, x1), (v2, x2)] := by
  refine ⟨⟨_, _, rfl, rfl, Nat.le_refl _, fun _ => ⟨g, 0, rfl, fun j u hu => ?_⟩⟩, fun x hx => ?_⟩
  · rw [hb.cell, Nat.zero_add]
    simpa using hu
  · simp only [List.mem_cons, List.not_mem_nil, or_false] at hx
    rcases hx with rfl | rfl | rfl
    · exact h0
    · exact h1
    · exact h2
theorem rsum_any (i : Nat) (b : Value) (body : List UInt8) (w : World) (hr : Rd w 1 b body.length (bv body)) (hb : body.length ≤ 999999999000) (hi : i ≤ 9223372036854775807) :
    Calls Try.prog 26 #[.int .i64 i, b] w fun e w' => ∃ g c, e = .returned (.slice (some ⟨g, 0, none⟩) 8 c) ∧ Rd w' 1 (.slice (some ⟨g, 0, none⟩) 8 c) 8 (bv (rsum i body)) ∧ Kept [] w w' ∧ w.heap.size ≤ g := by
  have cn := Lib.hid (fun u => number_any (.slice none 0 0) [] i u (Rd.nil u 1) (by simp) (by omega))
  have R := Lib.hid hr
  have cs := Lib.hid sum_any
  obtain ⟨A, c, rfl, _, hc, _⟩ := hr
  go_enter Try.func26, Try.ntmps26
  go_wp2_with (first
    | ((with_reducible refine wpl_at 6 ?_); (refine wpl_bslice1 (o := ⟨some 6, _, _, _, _, _⟩) (v0 := .int .u8 6) (cells := (bv [6]).toArray) rfl bytesT rfl rfl (by decide) rfl rfl ?_); intro g6 w6 m6
       have b6 := Lib.hid (show Rd w6 1 (.slice (some ⟨g6, 0, none⟩) 1 1) 1 (bv [6]) from ⟨_, _, rfl, rfl, by omega, fun _ => ⟨g6, 0, rfl, fun j u hu => by rw [m6.blk.cell]; simpa using hu⟩⟩)
       have K := Lib.hid m6.kept
       clear m6)
    | (go_at_call 31; (with_reducible refine (cn.out _).mono ?_); rintro e w9 ⟨v9, rfl, n9⟩
       obtain ⟨A9, c9, rfl, _⟩ := n9.ow.shape
       have N9 := Lib.hid (show New w6 w9 (.slice A9 (be8 i).length c9) (be8 i) from n9)
       replace K := Lib.hid (K.out.then0 n9.kept)
       clear n9)
    | ((with_reducible refine wpl_at 11 ?_); (refine wpl_bslice3 (o := ⟨some 11, _, _, _, _, _⟩) (v0 := .slice (some ⟨g6, 0, none⟩) 1 1) (v1 := .slice A9 (be8 i).length c9) (v2 := .slice A body.length c) rfl slicesT rfl rfl rfl rfl rfl rfl rfl ?_); intro g11 w11 m11
       have P := Lib.hid (parts3 (x0 := [6]) (x1 := be8 i) (x2 := body) m11.blk (b6.out.kept0 (N9.out.kept.then0 m11.kept)) ((Rd.of_ow N9.out.ow).kept0 m11.kept) (R.out.kept0 (K.out.then0 m11.kept)))
       replace K := Lib.hid (K.out.then0 m11.kept)
       clear m11 b6 N9)
    | (go_at_call 36; (with_reducible refine (cs.out _ _ _ P.out (by simp) (by simp only [joined, bytesOf, List.map_cons, List.map_nil, List.flatten_cons, List.flatten_nil, List.length_append, List.length_cons, List.length_nil, be8_len]; omega)).mono ?_); rintro e w12 ⟨rfl, kk⟩
       replace K := Lib.hid (K.out.then0 kk)
       clear kk P)
    | ((with_reducible refine wpl_new (o := ⟨some 5, _, _, _, _, _⟩) rfl rfl hash_z ?_); intro g5 w5 m5
       refine wpl_store_row (o := ⟨none, Op.store 66 (.tmp 5) (.tmp 12), _, _, _, _⟩) hashR rfl (.tmp 5) (.tmp 12) rfl rfl rfl m5.blk (by rfl) (by simp [sha_len]) (one_ab _) ?_
       intro wb bb kb
       have BB := Lib.hid bb
       have L5 := Lib.hid (Nat.le_trans K.out.size m5.le)
       replace K := Lib.hid (K.out.then0 (m5.kept.then1 kb m5.le))
       clear m5 bb kb))
  go_ret
  refine ⟨_, _, rfl, ⟨_, _, rfl, by simp [rsum_len], by decide, fun _ => ⟨g5, 0, rfl, fun j u hu => ?_⟩⟩, K.out, L5.out⟩
  rw [BB.out.cell, Nat.zero_add]
  unfold rsum at hu
  rw [bv, List.map_take, List.getElem?_take] at hu
  split at hu
  · simpa [joined] using hu
  · cases hu
end Go.Proofs.Ytjdfnhfankcodaa
