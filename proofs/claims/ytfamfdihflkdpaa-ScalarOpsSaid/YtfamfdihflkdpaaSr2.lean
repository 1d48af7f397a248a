/-
  Scalars, the document's answer: less L.
-/
import Derived.Test.YtfamfdihflkdpaaSr2p
import Derived.Deep.RegionWith
import Derived.IntWalk
namespace Go.Proofs.Ytfamfdihflkdpaa
open Go.RowKit Go.Mem

theorem intT : SliceT Try.prog 44 3 1 8 (.int .i64 0) := ⟨Try.underlying44, by kernel_rfl, rfl, by omega⟩

/-- The digits while L is taken away. -/
def stv (x k j : Nat) : Int := if j < k then (dg (x - LL) j : Int) else if j = k then (dg x k : Int) - bw x k else (dg x j : Int)
def st (x k : Nat) : List Int := (List.range 33).map (stv x k)
theorem st_len (x k : Nat) : (st x k).length = 33 := by simp [st]
theorem st_get (x k j : Nat) (h : j < 33) : (st x k)[j]? = some (stv x k j) := by simp [st, h]
theorem st_zero (x : Nat) : st x 0 = dgs x := by
  unfold st dgs
  apply List.map_congr_left
  intro i _
  unfold stv
  rw [if_neg (by omega), bw_zero]
  split
  · subst_vars; simp
  · rfl
theorem st_end (x : Nat) : st x 33 = dgs (x - LL) := by
  unfold st dgs
  apply List.map_congr_left
  intro i hi
  unfold stv
  rw [if_pos (by simpa using hi)]
theorem set_map {l : List Int} {j : Nat} {z : Int} : (iv l).set j (.int .i64 z) = iv (l.set j z) := by simp [iv]

/-- Digit k less L's. -/
def d1 (x k : Nat) : Int := (dg x k : Int) - bw x k - dg LL k
theorem st_neg (x k : Nat) (hx : LL ≤ x) (hk : k < 32) (h : d1 x k < 0) : (((st x k).set k (d1 x k)).set k (d1 x k + 256)).set (k + 1) ((dg x (k + 1) : Int) - 1) = st x (k + 1) := by
  obtain ⟨h1, h2⟩ := bw_step x k hx
  have hb := h1.1 h
  unfold d1 at h
  rw [if_pos h] at h2
  apply List.ext_getElem?
  intro i
  rw [List.set_set, List.getElem?_set, List.getElem?_set]
  simp only [List.length_set, st_len]
  rcases Nat.lt_or_ge i 33 with hi | hi
  · rw [st_get x k i hi, st_get x (k + 1) i hi]
    unfold stv
    by_cases e1 : k + 1 = i
    · subst e1
      rw [if_pos rfl, if_pos hi, if_neg (by omega), if_pos rfl, hb]; simp
    · rw [if_neg e1]
      by_cases e2 : k = i
      · subst e2
        rw [if_pos rfl, if_pos hi, if_pos (by omega), h2]; unfold d1; rfl
      · rw [if_neg e2]
        by_cases e3 : i < k
        · rw [if_pos e3, if_pos (by omega)]
        · rw [if_neg e3, if_neg (by omega), if_neg (by omega), if_neg (by omega)]
  · rw [if_neg (by omega), if_neg (by omega), List.getElem?_eq_none (by rw [st_len]; exact hi), List.getElem?_eq_none (by rw [st_len]; exact hi)]
theorem st_pos (x k : Nat) (hx : LL ≤ x) (hk : k < 33) (h : ¬ d1 x k < 0) : (st x k).set k (d1 x k) = st x (k + 1) := by
  obtain ⟨h1, h2⟩ := bw_step x k hx
  have hb : bw x (k + 1) = 0 := by
    have := bw_le x (k + 1)
    have h3 : ¬ bw x (k + 1) = 1 := fun e => h (h1.2 e)
    omega
  unfold d1 at h
  rw [if_neg h] at h2
  apply List.ext_getElem?
  intro i
  rw [List.getElem?_set]
  simp only [st_len]
  rcases Nat.lt_or_ge i 33 with hi | hi
  · rw [st_get x k i hi, st_get x (k + 1) i hi]
    unfold stv
    by_cases e2 : k = i
    · subst e2
      rw [if_pos rfl, if_pos hi, if_pos (by omega), h2]; rfl
    · rw [if_neg e2]
      by_cases e3 : i < k
      · rw [if_pos e3, if_pos (by omega)]
      · rw [if_neg e3, if_neg (by omega), if_neg (by omega)]
        by_cases e4 : i = k + 1
        · subst e4; rw [if_pos rfl, hb]; simp
        · rw [if_neg e4]
  · rw [if_neg (by omega), List.getElem?_eq_none (by rw [st_len]; exact hi), List.getElem?_eq_none (by rw [st_len]; exact hi)]
theorem last_pos (x : Nat) (hx : LL ≤ x) (hl : x < 256 ^ 33) : ¬ d1 x 32 < 0 := by
  intro h
  have h2 := (bw_step x 32 hx).1.1 h
  unfold bw at h2
  rw [Nat.mod_eq_of_lt hl, Nat.mod_eq_of_lt (by decide +kernel), if_neg (by omega)] at h2
  cases h2
theorem d1_bd (x k : Nat) : -256 ≤ d1 x k ∧ d1 x k ≤ 255 := by
  have := dg_lt x k; have := dg_lt LL k; have := bw_le x k
  unfold d1; omega
theorem LL_32 : dg LL 32 = 0 := by decide +kernel

/-- The row as it stands. -/
structure Row (w : World) (g o c : Nat) (l : List Int) : Prop where
  ow : Ow w 3 1 (.slice (some ⟨g, o, none⟩) 33 c) 33 (iv l)
theorem Row.cell {w : World} {g o c : Nat} {l : List Int} (h : Row w g o c l) (j : Nat) (z : Int) (hz : l[j]? = some z) : w.cell? ⟨g, o + j, none⟩ = some (.int .i64 z) := by
  obtain ⟨g', o', c', he, _, hc, _⟩ := h.ow.at_ (by omega)
  cases he
  exact hc j _ (by simp [hz])
theorem Row.frozen {w : World} {g o c : Nat} {l : List Int} (h : Row w g o c l) (j : Nat) : w.frozen? ⟨g, j, none⟩ = false := by
  obtain ⟨g', o', c', he, _, _, hf, _⟩ := h.ow.at_ (by omega)
  cases he
  exact hf j
theorem Row.set_ {w : World} {g o c : Nat} {l : List Int} (h : Row w g o c l) (j : Nat) (z : Int) (hj : j < 33) : Row (w.setCell ⟨g, o + j, none⟩ (.int .i64 z)) g o c (l.set j z) := by
  have hl : (iv l).length = 33 := by have := h.ow.1; omega
  obtain ⟨g', o', c', he, _, _, _, hs⟩ := h.ow.at_ (by omega)
  cases he
  have := hs j (.int .i64 z) (by omega)
  rw [set_map] at this
  exact ⟨this⟩
theorem Row.kept {w w' : World} {g o c : Nat} {l : List Int} (h : Row w g o c l) (hk : Kept [] w w') : Row w' g o c l := ⟨h.ow.kept0 hk⟩

set_option maxHeartbeats 1600000 in
theorem rless_any (v : Value) (x : Nat) (w : World) (hr : Rd w 1 v 33 (iv (dgs x))) (hx : LL ≤ x) (hl : x < 256 ^ 33) :
    Calls Try.prog 21 #[v] w fun e w' => ∃ g o c, e = .returned (.slice (some ⟨g, o, none⟩) 33 c) ∧ Row w' g o c (dgs (x - LL)) ∧ Kept [] w w' ∧ w.heap.size ≤ g := by
  have hr2 := Lib.hid hr
  obtain ⟨b, o, c, rfl, hc, _⟩ := hr.at_ (by omega)
  have hx2 := Lib.hid (And.intro hx hl)
  clear hr hx hl
  go_enter Try.func21, Try.ntmps21
  go_wp2_with (at_builtin; refine wpl_app intT rfl (.tmp 5) (.tmp 6) rfl rfl (xs := []) (n := 0) (Ow.of_own (own_alloc_at (by simp) rfl rfl (by omega))) rfl (hr2.out.alloc _) (one_iv _) ?_ ?_ ?_)
  case refine_1 => omega
  case refine_2 => omega
  intro v' w1 hown hk hb
  have hk0 : Kept [] w w1 := Kept.fresh ((Kept.refl [] w).alloc _) hk (by simp [Value.ownBlock])
  obtain ⟨g, o', c', rfl, _, _, _, _⟩ := hown.at_ (by omega)
  have hge : w.heap.size ≤ g := by
    rcases hb with hb | hb
    · simp [Value.ownBlock] at hb; omega
    · simp [Value.ownBlock] at hb; omega
  have R := Lib.hid (show Row w1 g o' c' (st x 0) from ⟨by rw [st_zero]; exact hown⟩)
  have K := Lib.hid (And.intro hk0 hge)
  clear hown hk hb hk0 hge
  go_wp2_with fail
  go_loopg [4] 33 (fun f i wk => ∃ k : Nat, k ≤ 33 ∧ f + k = 33 ∧ i = .int .i64 k ∧ Row wk g o' c' (st x k) ∧ Kept [g] w1 wk)
  case atStart => exact ⟨0, by omega, rfl, rfl, R.out, Kept.refl _ _⟩
  case round =>
    obtain ⟨k, hk, hf, rfl, hb, hkw⟩ := hrel
    have H := Lib.hid hb
    have HK := Lib.hid hkw
    have hbd := d1_bd x k
    clear hb hkw
    by_cases h33 : k < 33
    · by_cases h32 : k < 32
      · have c1 := H.out.cell k (stv x k k) (st_get x k k h33)
        have hsv : stv x k k = (dg x k : Int) - bw x k := by unfold stv; rw [if_neg (by omega), if_pos rfl]
        rw [hsv] at c1
        have hd0 : (dg x k : Int) - bw x k - dg LL k = d1 x k := rfl
        have hwr := IntWalk.i64_in (d1 x k) (by omega)
        have ho := Lib.hid (rorder_any k h32)
        have hf1 := H.out.frozen (o' + k)
        have b1 := dg_lt x k
        have b2 := bw_le x k
        have b3 := dg_lt LL k
        have hcm := Lib.hid (fun (u : World) (hu : Row u g o' c' (st x k)) => by have := hu.cell k (stv x k k) (st_get x k k h33); rwa [hsv] at this)
        go_wp2_with fail
        go_region_with (go_at_call 27; refine (ho.out _).mono ?_; rintro e w2 ⟨rfl, k2⟩; have H2 := Lib.hid (H.out.kept k2.from_drew); have HK2 := Lib.hid (HK.out.then0 k2.from_drew); have c2 := hcm.out w2 H2.out; have hf2 := H2.out.frozen (o' + k); clear k2)
        all_goals
          have H3 := Lib.hid (H2.out.set_ k (d1 x k) h33)
          have HK3 := Lib.hid (HK2.out.setCell (p := ⟨g, o' + k, none⟩) (.inl (by simp)) (Value.int .i64 (d1 x k)))
          generalize hW : w2.setCell ⟨g, o' + k, none⟩ (.int .i64 (d1 x k)) = w3 at *
          clear hW c1 c2 hf1 hf2
          by_cases hneg : d1 x k < 0
          · have c4 := H3.out.cell k (d1 x k) (by rw [List.getElem?_set]; simp [st_len, h33])
            have hf4 := H3.out.frozen (o' + k)
            have H4 := Lib.hid (H3.out.set_ k (d1 x k + 256) h33)
            have c5 := H4.out.cell (k + 1) (dg x (k + 1) : Nat) (by
              rw [List.getElem?_set, if_neg (by omega), List.getElem?_set, if_neg (by omega), st_get x k (k + 1) (by omega)]
              unfold stv
              rw [if_neg (by omega), if_neg (by omega)])
            have hf5 := H4.out.frozen (o' + (k + 1))
            have b5 := dg_lt x (k + 1)
            have H5 := H4.out.set_ (k + 1) ((dg x (k + 1) : Int) - 1) (by omega)
            rw [st_neg x k hx2.out.1 h32 hneg] at H5
            have H6 := Lib.hid H5
            have HK6 := Lib.hid ((HK3.out.setCell (p := ⟨g, o' + k, none⟩) (.inl (by simp)) (Value.int .i64 (d1 x k + 256))).setCell (p := ⟨g, o' + (k + 1), none⟩) (.inl (by simp)) (Value.int .i64 ((dg x (k + 1) : Int) - 1)))
            clear H5
            go_wp2_with fail
            go_roundg (33 - (k + 1))
            case measure => omega
            case rel => exact ⟨k + 1, by omega, by omega, by go_num, H6.out, HK6.out⟩
          · have c4 := H3.out.cell k (d1 x k) (by rw [List.getElem?_set]; simp [st_len, h33])
            have H5 := H3.out
            rw [st_pos x k hx2.out.1 h33 hneg] at H5
            have H6 := Lib.hid H5
            clear H5
            go_wp2_with fail
            go_roundg (33 - (k + 1))
            case measure => omega
            case rel => exact ⟨k + 1, by omega, by omega, by go_num, H6.out, HK3.out⟩
      · obtain rfl : k = 32 := by omega
        have hneg := last_pos x hx2.out.1 hx2.out.2
        have hsv : stv x 32 32 = d1 x 32 := by
          unfold stv d1
          rw [if_neg (by omega), if_pos rfl, LL_32]; simp
        have c1 := H.out.cell 32 (stv x 32 32) (st_get x 32 32 (by omega))
        rw [hsv] at c1
        have hS := st_pos x 32 hx2.out.1 (by omega) hneg
        have hS2 : (st x 32).set 32 (d1 x 32) = st x 32 := by
          apply List.ext_getElem?
          intro i
          rw [List.getElem?_set]
          simp only [st_len]
          split
          · subst_vars; simp [st_get x 32 32 (by omega), hsv]
          · rfl
        rw [hS2] at hS
        have H6 := Lib.hid (show Row wr g o' c' (st x 33) from hS ▸ H.out)
        clear hS hS2 hsv
        go_wp2_with fail
        go_roundg (33 - (32 + 1))
        case measure => omega
        case rel => exact ⟨33, by omega, by omega, by go_num, H6.out, HK.out⟩
    · obtain rfl : k = 33 := by omega
      rw [st_end] at H
      go_wp2_with fail
      go_ret
      exact ⟨g, o', c', rfl, H.out, K.out.1.then1 HK.out K.out.2, K.out.2⟩
end Go.Proofs.Ytfamfdihflkdpaa
