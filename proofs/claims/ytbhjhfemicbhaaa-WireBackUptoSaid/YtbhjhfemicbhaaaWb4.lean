/-
  The wire: what is written is read again (WireBack): the walk.
-/
import Derived.Test.YtbhjhfemicbhaaaWb3
import Derived.Test.YtbhjhfemicbhaaaText5
import Derived.Test.YtbhjhfemicbhaaaFloat
namespace Go.Proofs.Ytbhjhfemicbhaaa
open Go.RowKit Go.Mem Go.Txt

theorem newB_any (b : Value) (bs : List UInt8) (w : World) (hr : Rd w 1 b bs.length (bv bs)) (hb : bs.length ≤ 140737488355328) :
    Calls Try.prog 11 #[b] w fun e w' => ∃ r, e = .returned (.pointer (some ⟨r, 0, none⟩)) ∧ Kept [] w w' ∧ w.heap.size ≤ r ∧ ∀ S w2, Kept S w' w2 → (∀ k ∈ S, k < w.heap.size) → RdrA w2 r (0, bs) := by
  have H := Lib.hid hr
  clear hr
  go_enter Try.func11, Try.ntmps11
  go_wp2_with (go_at_call 28; refine (clone_any _ bs w H.out hb).mono ?_; rintro e w1 ⟨ov, rfl, hn⟩; obtain ⟨OA, oc, rfl, _⟩ := hn.ow.shape; have hn2 := Lib.hid hn; clear hn)
  go_ret
  refine ⟨_, rfl, hn2.out.kept.alloc _, hn2.out.kept.size, fun S w2 hk hS => ⟨_, (Blk.new _ _ _).kept hk (fun h => ?_), (hn2.out.ow.alloc _).kept hk (fun k hk2 hm => ?_)⟩⟩
  · have := hS _ h
    have := hn2.out.kept.size
    omega
  · have := hS _ hm
    rcases hn2.out.near with h | ⟨g, h, hg⟩
    · rw [hk2] at h; cases h
    · rw [hk2] at h
      have : k = g := by simpa using h
      omega
theorem wrap_i (n : Nat) (h : n ≤ 65536) : IntKind.i64.wrap (n : Int) = (n : Int) := by
  simp [IntKind.wrap, IntKind.signed, IntKind.bits]
  omega
theorem flatS (w : World) : (isAgg 24).run Try.prog w = .ok false w := by kernel_rfl
theorem exec_cell {P : Program} {u : World} {a : Act} {o : Oper} {t : TypeId} (x : Operand) (ho : o.op = .load t x) (hs : ∀ w, (isAgg t).run P w = .ok false w) {p : Addr} (hx : a.eval x = .pointer (some p)) {v : Value} (hc : u.cell? p = some v) :
    (execOp a.eval o).run P u = .ok (.value v) u := by
  have h2 : (isAgg t).run P u = .ok false u := hs u
  simp [execOp, ho, hx, Instr.loadAt, Instr.sureAddr, loadVar, h2, hc]
theorem exec_conv {u : World} {a : Act} {o : Oper} (x : Operand) (ho : o.op = .convert 24 9 x) {v : Value} (hx : a.eval x = v) {bs : List UInt8} (hr : Rd u 1 v bs.length (bv bs)) :
    (execOp a.eval o).run Try.prog u = .ok (.value (.string (mkS bs))) u := by
  have h := run_toS (P := Try.prog) (s := 24) (d := 9) (e := 5) rfl rfl rfl hr
  simp [execOp, ho, hx, h]
theorem one_it (K : Int) (N : Nat) (A : Option Addr) (n c : Nat) : (#[Value.int .i64 K, .int .u64 (N : Int), .slice A n c] : Array Value).all (·.oneCell') = true := by simp [Value.oneCell']
theorem Items.take {w : World} {A : Option Addr} {c : Nat} {ops : List It} (h : Items w (.slice A ops.length c) ops) (m : Nat) (hm : m ≤ ops.length) : Items w (.slice A m c) (ops.take m) := by
  obtain ⟨A', c', heq, hl, hnc, hx⟩ := h.outer
  cases heq
  have hml : (ops.take m).length = m := by rw [List.length_take]; omega
  refine ⟨⟨A, c, by rw [hml], by rw [flat_len], by omega, fun hp => ?_⟩, fun o ho => h.inner o (List.mem_of_mem_take ho)⟩
  obtain ⟨b, o, hA, hcell⟩ := hx (by omega)
  refine ⟨b, o, hA, fun j u hu => hcell j u ?_⟩
  have e : ops.flatMap itCells = (ops.take m).flatMap itCells ++ (ops.drop m).flatMap itCells := by rw [← List.flatMap_append, List.take_append_drop]
  have hj : j < ((ops.take m).flatMap itCells).length := by
    rcases Nat.lt_or_ge j ((ops.take m).flatMap itCells).length with h | h
    · exact h
    · rw [List.getElem?_eq_none h] at hu; cases hu
  rw [e, List.getElem?_append_left hj]
  exact hu

set_option maxRecDepth 100000 in
set_option maxHeartbeats 4000000 in
theorem back_walk (v : Value) (ops : List It) (w : World) (hs : Items w v ops) (hB : ∀ o ∈ ops, o.2.2.2.length ≤ 1048576) (_ : ops.length ≤ 9223372036854775807) (hN : ∀ o ∈ ops, o.2.1 < 18446744073709551616) :
    Calls Try.prog 7 #[v] w fun e w' => e = .returned (.bool true) ∧ Kept [] w w' := by
  obtain ⟨A, c, rfl, _, _, _⟩ := hs.outer
  have rC2 := Lib.hid hs.take
  have hB2 := Lib.hid hB
  have hN2 := Lib.hid hN
  clear hs hB hN
  go_enter Try.func7, Try.ntmps7
  go_wp2_with (go_at_call 8; refine (first_true _).mono ?_; rintro e w1 ⟨rfl, hk⟩; have k1 := Lib.hid hk; clear hk)
  case' inl => obtain ⟨ls, hls, rL⟩ : ∃ ls : List It, ls.length = 40 ∧ (Items w (.slice A 40 c) ls ∧ (∀ z ∈ ls, z.2.2.2.length ≤ 1048576 ∧ z.2.1 < 18446744073709551616)) := ⟨ops.take 40, by rw [List.length_take]; omega, ⟨rC2.out 40 (by omega), fun z hz => ⟨hB2.out z (List.mem_of_mem_take hz), hN2.out z (List.mem_of_mem_take hz)⟩⟩⟩
  case' inr => obtain ⟨ls, hls, rL⟩ : ∃ ls : List It, ls.length = ops.length ∧ (Items w (.slice A ops.length c) ls ∧ (∀ z ∈ ls, z.2.2.2.length ≤ 1048576 ∧ z.2.1 < 18446744073709551616)) := ⟨ops.take ops.length, by rw [List.length_take]; omega, ⟨rC2.out ops.length (by omega), fun z hz => ⟨hB2.out z (List.mem_of_mem_take hz), hN2.out z (List.mem_of_mem_take hz)⟩⟩⟩
  all_goals
    have hls40 : ls.length ≤ 40 := by omega
    have rL2 := Lib.hid rL
    clear rL
    go_loopg [4, 5, 25] ls.length (fun g p q i wk => ∃ k : Nat, g + k = ls.length ∧ i = .int .i64 k ∧ Wr w1 wk p q (pcs (ls.take k)))
    case atStart => exact ⟨0, by omega, rfl, ⟨New.nil w1, New.nil w1, fun g hg => by cases hg⟩⟩
    case round =>
      obtain ⟨k, hk, rfl, hW⟩ := hrel
      by_cases hlt : k < ls.length
      · obtain ⟨pb, po, pc2, heq, c0, c1, c2⟩ := (rL2.out.1.kept0 (k1.out.then0 hW.b.kept)).at_ hlt
        rw [hls] at heq
        cases heq
        have hin0 := rL2.out.1.inner ls[k] (List.getElem_mem _)
        obtain ⟨hBl0, hNl0⟩ := rL2.out.2 ls[k] (List.getElem_mem _)
        have hsc := pcs_succ ls k hlt
        have hXl0 : (pcs (ls.take k)).length ≤ 41943400 := by
          have h1 := pcs_len (ls.take k) fun o ho => (rL2.out.2 o (List.mem_of_mem_take ho)).1
          have h2 : (ls.take k).length ≤ 39 := by rw [List.length_take]; omega
          omega
        generalize ls[k] = o at *
        obtain ⟨K, N, iv0, xs⟩ := o
        dsimp only at c0 c1 c2 hin0 hBl0 hNl0
        obtain ⟨VA, vc, rfl, _, _, _⟩ := id hin0
        have hin := Lib.hid hin0
        have hBl := Lib.hid hBl0
        have hNl := Lib.hid hNl0
        have hXl := Lib.hid hXl0
        have hfl := Lib.hid (show (form xs).length = 8 + xs.length from by rw [form, List.length_append, be8_len])
        clear hin0 hBl0 hNl0 hXl0
        replace hsc := Lib.hid hsc
        generalize pcs (ls.take k) = X at *
        obtain ⟨BA, bc, rfl, _⟩ := hW.b.ow.shape
        obtain ⟨WA, wc0, rfl, _⟩ := hW.w.ow.shape
        have W := Lib.hid hW
        clear hW
        go_upto_block 2 with (first
          | ((with_reducible refine wpl_new (o := ⟨some 7, _, _, _, _, _⟩) rfl rfl zeroIt ?_); intro g7 x7 m7)
          | ((with_reducible refine wpl_store_row (o := ⟨none, .store 52 (.tmp 7) (.tmp 28), _, _, _, _⟩) structIt rfl (.tmp 7) (.tmp 28) rfl rfl rfl m7.blk rfl rfl (one_it _ _ _ _ _) ?_); intro v7 b7 k7; have hg7 := Nat.le_trans W.out.b.kept.size m7.le; replace W := Lib.hid ((W.out.kept m7.kept).put m7.blk hg7 k7); have I0 := Lib.hid b7; have f0 := b7.cell 0; have f1 := b7.cell 1; have f2 := b7.cell 2; have hs0 := run_toS (P := Try.prog) (s := 24) (d := 9) (e := 5) rfl rfl rfl (Rd.of_ow W.out.b.ow); clear m7 b7 k7))
        go_cut [4, 5, 34] (fun p q _ wc => True ∧ Wr w1 wc p q (X ++ pc (K, N, .slice VA xs.length vc, xs)))
        case first =>
          have hkq := kd_q (K, N, .slice VA xs.length vc, xs)
          have hk5 := kd_lt (K, N, .slice VA xs.length vc, xs)
          dsimp only at hkq
          have hcs : kd (K, N, .slice VA xs.length vc, xs) = 0 ∨ kd (K, N, .slice VA xs.length vc, xs) = 1 ∨ kd (K, N, .slice VA xs.length vc, xs) = 2 ∨ kd (K, N, .slice VA xs.length vc, xs) = 3 ∨ kd (K, N, .slice VA xs.length vc, xs) = 4 := by omega
          clear hk5
          rcases hcs with hc | hc | hc | hc | hc
          · have hpc0 : pc (K, N, .slice VA xs.length vc, xs) = be8 N := by unfold pc; rw [if_pos hc]
            rw [hc] at hkq
            have hpc := hpc0
            clear hpc0 hc
            go_wp2_with (first
              | (go_at_call 10; refine (number_any _ X N _ (Rd.of_ow W.out.b.ow) (by have := hXl.out; omega) hNl.out).mono ?_; rintro e w2 ⟨ov, rfl, hb2⟩; have M := Lib.hid (W.out.next I0.out hb2); clear hb2; have g1f := M.out.i.cell 1)
              | (go_at_call 25; refine (rnumber_any N _ hNl.out).mono ?_; rintro e w3 ⟨pv, rfl, hp⟩; obtain ⟨PA, pcp, hpv, _⟩ := hp.ow.shape; rw [be8_len] at hpv; subst hpv; have pw := Lib.hid hp; replace M := Lib.hid (M.out.kept pw.out.kept); clear hp)
              | (at_builtin; refine wpl_app bytesT rfl (.tmp 52) (.tmp 55) rfl rfl M.out.w.ow rfl (Rd.of_ow pw.out.ow) (one_bv _) ?_ ?_ ?_))
            case refine_1 => have := hXl.out; have := hBl.out; rw [be8_len]; omega
            case refine_2 => have := hXl.out; have := hBl.out; rw [be8_len]; omega
            intro v4 w4 hown hk4 hb4
            have R := Lib.hid (Md.app M.out rfl rfl (by simpa using hown) hk4 hb4)
            clear hown hk4 hb4
            go_wp2_with fail
            go_meet
            exact ⟨trivial, by rw [hpc]; exact R.out⟩
          · have hpc0 : pc (K, N, .slice VA xs.length vc, xs) = form xs := by unfold pc; rw [if_neg (by omega)]; rw [if_pos hc]
            rw [hc] at hkq
            have hpc := hpc0
            clear hpc0 hc
            go_wp2_with (first
              | (go_at_call 9; refine (bytes_any _ _ X xs _ (Rd.of_ow W.out.b.ow) (hin.out.kept0 (k1.out.then0 W.out.b.kept)) (by have := hXl.out; have := hBl.out; omega)).mono ?_; rintro e w2 ⟨ov, rfl, hb2⟩; have M := Lib.hid (W.out.next I0.out hb2); clear hb2; have g1f := M.out.i.cell 2)
              | (go_at_call 26; refine (rbytes_any _ xs _ (hin.out.kept0 (k1.out.then0 M.out.b.kept)) (by have := hBl.out; omega)).mono ?_; rintro e w3 ⟨pv, rfl, hp⟩; obtain ⟨PA, pcp, hpv, _⟩ := hp.ow.shape; rw [hfl.out] at hpv; subst hpv; have pw := Lib.hid hp; replace M := Lib.hid (M.out.kept pw.out.kept); clear hp)
              | (at_builtin; refine wpl_app bytesT rfl (.tmp 63) (.tmp 66) rfl rfl M.out.w.ow rfl (Rd.of_ow pw.out.ow) (one_bv _) ?_ ?_ ?_))
            case refine_1 => have := hXl.out; have := hBl.out; rw [hfl.out]; omega
            case refine_2 => have := hXl.out; have := hBl.out; rw [hfl.out]; omega
            intro v4 w4 hown hk4 hb4
            have R := Lib.hid (Md.app M.out rfl rfl (by simpa using hown) hk4 hb4)
            clear hown hk4 hb4
            go_wp2_with fail
            go_meet
            exact ⟨trivial, by rw [hpc]; exact R.out⟩
          · have hpc0 : pc (K, N, .slice VA xs.length vc, xs) = fixB 32 xs := by unfold pc; rw [if_neg (by omega)]; rw [if_neg (by omega)]; rw [if_pos hc]
            rw [hc] at hkq
            have hpc := hpc0
            clear hpc0 hc
            have fx : ∀ W, Kept [] w W → Calls Try.prog 27 #[itemV K N (.slice VA xs.length vc), .int .i64 32] W fun e w' => ∃ v', e = .returned v' ∧ New W w' v' (fixB 32 xs) := fun W hk => fixed_any K N 32 _ xs W (hin.out.kept0 hk) (by omega)
            have fxh := Lib.hid fx
            clear fx
            go_wp2_with (first
              | (with_reducible refine wpl_load_row (o := ⟨some 71, _, _, _, _, _⟩) structIt rfl (.tmp 7) rfl rfl I0.out rfl ?_)
              | (go_at_call 27; (with_reducible refine (fxh.out _ (k1.out.then0 W.out.b.kept)).mono ?_); rintro e w2 ⟨pv, rfl, hp⟩; obtain ⟨PA, pcp, hpv, _⟩ := hp.ow.shape; rw [fixB_len] at hpv; subst hpv; have p0 := Lib.hid hp; replace W := Lib.hid (W.out.kept p0.out.kept); replace I0 := Lib.hid (I0.out.kept p0.out.kept (by simp)); clear hp)
              | (go_at_call 24; refine (join_any _ [(Value.slice BA X.length bc, X), (.slice PA 32 pcp, fixB 32 xs)] _ (parts2 _ (Rd.of_ow W.out.b.ow) (by have := Rd.of_ow p0.out.ow; rwa [fixB_len] at this ⊢)) (by simp) (by have := hXl.out; simp [joined, fixB_len] <;> omega)).mono ?_; rintro e w3 ⟨jv, rfl, hj⟩; rw [show joined [(Value.slice BA X.length bc, X), (.slice PA 32 pcp, fixB 32 xs)] = X ++ fixB 32 xs from by simp [joined]] at hj; have M := Lib.hid (W.out.next I0.out (hj.pre ((Kept.refl [] _).alloc _))); clear hj)
              | (with_reducible refine wpl_load_row (o := ⟨some 76, _, _, _, _, _⟩) structIt rfl (.tmp 7) rfl rfl M.out.i rfl ?_)
              | (go_at_call 27; (with_reducible refine (fxh.out _ (k1.out.then0 M.out.b.kept)).mono ?_); rintro e w5 ⟨pv, rfl, hp⟩; obtain ⟨PA, pcp, hpv, _⟩ := hp.ow.shape; rw [fixB_len] at hpv; subst hpv; have pw := Lib.hid hp; replace M := Lib.hid (M.out.kept pw.out.kept); clear hp)
              | (at_builtin; refine wpl_app bytesT rfl (.tmp 75) (.tmp 77) rfl rfl M.out.w.ow rfl (Rd.of_ow pw.out.ow) (one_bv _) ?_ ?_ ?_))
            case refine_1 => have := hXl.out; have := hBl.out; rw [fixB_len]; omega
            case refine_2 => have := hXl.out; have := hBl.out; rw [fixB_len]; omega
            intro v4 w4 hown hk4 hb4
            have R := Lib.hid (Md.app M.out rfl rfl (by simpa using hown) hk4 hb4)
            clear hown hk4 hb4
            go_wp2_with fail
            go_meet
            exact ⟨trivial, by rw [hpc]; exact R.out⟩
          · have hpc0 : pc (K, N, .slice VA xs.length vc, xs) = fixB 64 xs := by unfold pc; rw [if_neg (by omega)]; rw [if_neg (by omega)]; rw [if_neg (by omega)]; rw [if_pos hc]
            rw [hc] at hkq
            have hpc := hpc0
            clear hpc0 hc
            have fx : ∀ W, Kept [] w W → Calls Try.prog 27 #[itemV K N (.slice VA xs.length vc), .int .i64 64] W fun e w' => ∃ v', e = .returned v' ∧ New W w' v' (fixB 64 xs) := fun W hk => fixed_any K N 64 _ xs W (hin.out.kept0 hk) (by omega)
            have fxh := Lib.hid fx
            clear fx
            go_wp2_with (first
              | (with_reducible refine wpl_load_row (o := ⟨some 82, _, _, _, _, _⟩) structIt rfl (.tmp 7) rfl rfl I0.out rfl ?_)
              | (go_at_call 27; (with_reducible refine (fxh.out _ (k1.out.then0 W.out.b.kept)).mono ?_); rintro e w2 ⟨pv, rfl, hp⟩; obtain ⟨PA, pcp, hpv, _⟩ := hp.ow.shape; rw [fixB_len] at hpv; subst hpv; have p0 := Lib.hid hp; replace W := Lib.hid (W.out.kept p0.out.kept); replace I0 := Lib.hid (I0.out.kept p0.out.kept (by simp)); clear hp)
              | (go_at_call 24; refine (join_any _ [(Value.slice BA X.length bc, X), (.slice none 0 0, []), (.slice PA 64 pcp, fixB 64 xs)] _ (parts3 _ (Rd.of_ow W.out.b.ow) (by have := Rd.of_ow p0.out.ow; rwa [fixB_len] at this ⊢)) (by simp) (by have := hXl.out; simp [joined, fixB_len] <;> omega)).mono ?_; rintro e w3 ⟨jv, rfl, hj⟩; rw [show joined [(Value.slice BA X.length bc, X), (.slice none 0 0, []), (.slice PA 64 pcp, fixB 64 xs)] = X ++ fixB 64 xs from by simp [joined]] at hj; have M := Lib.hid (W.out.next I0.out (hj.pre ((Kept.refl [] _).alloc _))); clear hj)
              | (with_reducible refine wpl_load_row (o := ⟨some 87, _, _, _, _, _⟩) structIt rfl (.tmp 7) rfl rfl M.out.i rfl ?_)
              | (go_at_call 27; (with_reducible refine (fxh.out _ (k1.out.then0 M.out.b.kept)).mono ?_); rintro e w5 ⟨pv, rfl, hp⟩; obtain ⟨PA, pcp, hpv, _⟩ := hp.ow.shape; rw [fixB_len] at hpv; subst hpv; have pw := Lib.hid hp; replace M := Lib.hid (M.out.kept pw.out.kept); clear hp)
              | (at_builtin; refine wpl_app bytesT rfl (.tmp 86) (.tmp 88) rfl rfl M.out.w.ow rfl (Rd.of_ow pw.out.ow) (one_bv _) ?_ ?_ ?_))
            case refine_1 => have := hXl.out; have := hBl.out; rw [fixB_len]; omega
            case refine_2 => have := hXl.out; have := hBl.out; rw [fixB_len]; omega
            intro v4 w4 hown hk4 hb4
            have R := Lib.hid (Md.app M.out rfl rfl (by simpa using hown) hk4 hb4)
            clear hown hk4 hb4
            go_wp2_with fail
            go_meet
            exact ⟨trivial, by rw [hpc]; exact R.out⟩
          · have hpc0 : pc (K, N, .slice VA xs.length vc, xs) = be8 (N % 65537) := by unfold pc; rw [if_neg (by omega)]; rw [if_neg (by omega)]; rw [if_neg (by omega)]; rw [if_neg (by omega)]
            rw [hc] at hkq
            have hpc := hpc0
            clear hpc0 hc
            obtain ⟨N5, hN5⟩ : ∃ N5, N5 = N % 65537 := ⟨_, rfl⟩
            have hmod : (N : Int) % 65537 = (N5 : Int) := by omega
            have hN5l : N5 < 18446744073709551616 := by omega
            rw [← hN5] at hpc
            clear hN5
            go_wp2_with (first
              | (go_at_call 10; refine (number_any _ X N5 _ (Rd.of_ow W.out.b.ow) (by have := hXl.out; omega) hN5l).mono ?_; rintro e w2 ⟨ov, rfl, hb2⟩; have M := Lib.hid (W.out.next I0.out hb2); clear hb2; have g1f := M.out.i.cell 1)
              | (go_at_call 25; refine (rnumber_any N5 _ hN5l).mono ?_; rintro e w3 ⟨pv, rfl, hp⟩; obtain ⟨PA, pcp, hpv, _⟩ := hp.ow.shape; rw [be8_len] at hpv; subst hpv; have pw := Lib.hid hp; replace M := Lib.hid (M.out.kept pw.out.kept); clear hp)
              | (at_builtin; refine wpl_app bytesT rfl (.tmp 40) (.tmp 44) rfl rfl M.out.w.ow rfl (Rd.of_ow pw.out.ow) (one_bv _) ?_ ?_ ?_))
            case refine_1 => have := hXl.out; have := hBl.out; rw [be8_len]; omega
            case refine_2 => have := hXl.out; have := hBl.out; rw [be8_len]; omega
            intro v4 w4 hown hk4 hb4
            have R := Lib.hid (Md.app M.out rfl rfl (by simpa using hown) hk4 hb4)
            clear hown hk4 hb4
            go_wp2_with fail
            go_meet
            exact ⟨trivial, by rw [hpc]; exact R.out⟩
        case rest =>
          obtain ⟨-, hR⟩ := hcut
          obtain ⟨Y, hY⟩ : ∃ Y, Y = X ++ pc (K, N, .slice VA xs.length vc, xs) := ⟨_, rfl⟩
          rw [← hY] at hR hsc
          obtain ⟨BA2, bc2, rfl, _⟩ := hR.b.ow.shape
          obtain ⟨WA2, wc2, rfl, _⟩ := hR.w.ow.shape
          have hle : X.length ≤ Y.length := by rw [hY, List.length_append]; omega
          have htk : Y.take X.length = X := by rw [hY]; exact List.take_left
          have hs1 := run_toS (P := Try.prog) (s := 24) (d := 9) (e := 5) rfl rfl rfl (Rd.of_ow hR.b.ow)
          have hs2 := run_toS (P := Try.prog) (s := 24) (d := 9) (e := 5) rfl rfl rfl (Rd.of_ow hR.w.ow)
          obtain ⟨X1, dX1, hX1, rX1, _, _⟩ := cut_to bytesT (Rd.of_ow hR.b.ow) .i64 X.length hle
          have rX2 : Rd wc 1 (.slice X1 X.length dX1) X.length (bv X) := by
            rw [Nat.mul_one, show (bv Y).take X.length = bv (Y.take X.length) from by simp [bv], htk] at rX1
            exact rX1
          have hs3 := run_toS (P := Try.prog) (s := 24) (d := 9) (e := 5) rfl rfl rfl rX2
          have e1 := mkS_eq Y
          have e2 := mkS_eq X
          have R := Lib.hid hR
          clear hR rX1 rX2 hle htk hY
          go_wp2_with fail
          go_roundg (ls.length - (k + 1))
          case measure => omega
          case rel => exact ⟨k + 1, by omega, by go_num, by rw [hsc.out]; exact R.out⟩
      · have hkl : k = ls.length := by omega
        rw [hkl, List.take_length] at hW
        obtain ⟨BA, bc, rfl, _⟩ := hW.b.ow.shape
        have hXl := Lib.hid (show (pcs ls).length ≤ 41943400 from by
          have := pcs_len ls fun o ho => (rL2.out.2 o ho).1
          omega)
        obtain ⟨X, hX⟩ : ∃ X, X = pcs ls := ⟨_, rfl⟩
        rw [← hX] at hW hXl ⊢
        have B := Lib.hid hW.b
        replace hX := Lib.hid hX
        clear hW hkl hk
        go_wp2_with (go_at_call 11; refine (newB_any _ X _ (Rd.of_ow B.out.ow) (by have := hXl.out; omega)).mono ?_; rintro e w2 ⟨r, rfl, hr2, hle, hfar⟩; have R2 := Lib.hid (And.intro hr2 (And.intro hle hfar)); have B2 := Lib.hid (B.out.then0 hr2); clear hr2 hle hfar)
        go_loopg [109] X.length (fun g i wk => ∃ (j : Nat) (ys : List UInt8), g + j = X.length ∧ i = .int .i64 (j : Int) ∧ ys.length = X.length ∧ Ow wk 5 1 (.slice BA X.length bc) X.length (bv ys) ∧ Kept (Value.slice BA X.length bc).ownBlock.toList w2 wk)
        case atStart => exact ⟨0, X, by omega, rfl, rfl, B2.out.ow, Kept.refl _ _⟩
        case round =>
          obtain ⟨j, ys, hj, rfl, hyl, how, hkw⟩ := hrel
          by_cases hlt2 : j < X.length
          · obtain ⟨gb, ob, cb, heq, _, hcell, hfz, hset⟩ := how.at_ (by omega)
            cases heq
            have cj := hcell j (byteV (ys[j]'(by omega))) (by simp [hyl, hlt2])
            have zj := hfz (ob + j)
            have F := hset j (byteV 238) (by simp [bv, hyl, hlt2])
            rw [show (bv ys).set j (byteV 238) = bv (ys.set j 238) from by simp [bv, List.map_set]] at F
            have FK := hkw.setCell (p := ⟨gb, ob + j, none⟩) (.inl (by simp [Value.ownBlock])) (byteV 238)
            rw [show byteV 238 = Value.int .u8 238 from rfl] at F FK
            have FH := Lib.hid (And.intro F FK)
            have hXb := hXl.out
            clear hcell hfz hset how hkw F FK
            go_wp2_with fail
            go_roundg (X.length - (j + 1))
            case measure => omega
            case rel => exact ⟨j + 1, ys.set j 238, by omega, by go_num, by simp [hyl], FH.out.1, FH.out.2⟩
          · have hr0 := R2.out.2.2 _ _ hkw (fun g hg => B.out.ow.lt (mem_own hg))
            have k3 := Lib.hid (Kept.fresh B2.out.kept hkw B.out.old)
            have rd0 := Lib.hid (show RdrA wr r (0, pcs (ls.drop 0)) from by rw [List.drop_zero, ← hX.out]; exact hr0)
            have hrl := Lib.hid (Nat.le_trans B.out.kept.size R2.out.2.1)
            clear how hkw hr0 hj hyl B2 B
            go_wp2_with fail
            go_loopg [118] ls.length (fun g i wk => ∃ k : Nat, g + k = ls.length ∧ i = .int .i64 k ∧ RdrA wk r (0, pcs (ls.drop k)) ∧ Kept [] w1 wk)
            case atStart => exact ⟨0, by omega, rfl, rd0.out, k3.out⟩
            case round =>
              obtain ⟨k, hk, rfl, hrd, hkk⟩ := hrel
              by_cases hlt3 : k < ls.length
              · obtain ⟨pb, po, pc2, heq, c0, c1, c2⟩ := (rL2.out.1.kept0 (k1.out.then0 hkk)).at_ hlt3
                rw [hls] at heq
                cases heq
                have hin0 := rL2.out.1.inner ls[k] (List.getElem_mem _)
                obtain ⟨hBl0, hNl0⟩ := rL2.out.2 ls[k] (List.getElem_mem _)
                rw [pcs_drop ls k hlt3] at hrd
                generalize ls[k] = o at *
                obtain ⟨K, N, iv0, xs⟩ := o
                dsimp only at c0 c1 c2 hin0 hBl0 hNl0
                obtain ⟨VA, vc, rfl, _, _, _⟩ := id hin0
                have hin := Lib.hid hin0
                have hBl := Lib.hid hBl0
                have hNl := Lib.hid hNl0
                have D := Lib.hid hrd
                have KK := Lib.hid hkk
                clear hin0 hBl0 hNl0 hrd hkk
                obtain ⟨T, hT⟩ : ∃ T, T = pcs (ls.drop (k + 1)) := ⟨_, rfl⟩
                rw [← hT] at D
                replace hT := Lib.hid hT
                go_upto_block 7 with (first
                  | ((with_reducible refine wpl_new (o := ⟨some 12, _, _, _, _, _⟩) rfl rfl zeroIt ?_); intro g12 x12 m12)
                  | ((with_reducible refine wpl_store_row (o := ⟨none, .store 52 (.tmp 12) (.tmp 121), _, _, _, _⟩) structIt rfl (.tmp 12) (.tmp 121) rfl rfl rfl m12.blk rfl rfl (one_it _ _ _ _ _) ?_); intro v12 b12 k12; have hg12 := Nat.le_trans KK.out.size m12.le; have hne := m12.ne D.out.lt; replace D := Lib.hid ((D.out.kept0 m12.kept).kept1 k12 m12.blk (by decide) hne); replace KK := Lib.hid ((KK.out.then0 m12.kept).then1 k12 hg12); have I0 := Lib.hid b12; have f0 := b12.cell 0; have f1 := b12.cell 1; have f2 := b12.cell 2; replace hne := Lib.hid hne; clear m12 b12 k12 hg12))
                go_cut [13, 125] (fun ok _ wc => ok = .bool true ∧ RdrA wc r (0, T) ∧ Blk wc g12 52 #[.int .i64 K, .int .u64 (N : Int), .slice VA xs.length vc] ∧ Kept [] w1 wc)
                case first =>
                  have hkq := kd_q (K, N, .slice VA xs.length vc, xs)
                  have hk5 := kd_lt (K, N, .slice VA xs.length vc, xs)
                  dsimp only at hkq
                  have hcs : kd (K, N, .slice VA xs.length vc, xs) = 0 ∨ kd (K, N, .slice VA xs.length vc, xs) = 1 ∨ kd (K, N, .slice VA xs.length vc, xs) = 2 ∨ kd (K, N, .slice VA xs.length vc, xs) = 3 ∨ kd (K, N, .slice VA xs.length vc, xs) = 4 := by omega
                  clear hk5
                  rcases hcs with hc | hc | hc | hc | hc
                  · have hpc0 : pc (K, N, .slice VA xs.length vc, xs) = be8 N := by unfold pc; rw [if_pos hc]
                    rw [hc] at hkq
                    rw [hpc0] at D
                    clear hpc0 hc
                    have hNl2 := hNl.out
                    have e8 := Lib.hid (sNum_be8' N T hNl.out)
                    go_wp2_with fail
                    have fd1 := I0.out.drew.cell 1
                    go_region_with (go_at_call 15; refine (number_read _ _ _ D.out.drew).mono ?_; rw [e8.out]; rintro e w4 ⟨rfl, hr5, hk5⟩; have Z := Lib.hid (show RdrA w4 r (0, T) ∧ Blk w4 g12 52 #[.int .i64 K, .int .u64 (N : Int), .slice VA xs.length vc] ∧ Kept [] w1 w4 from ⟨hr5, I0.out.drew.kept hk5 (by simpa using Ne.symm hne.out), kfresh KK.out hk5.from_drew hrl.out⟩); have fw := Z.out.2.1.cell 1; clear hr5 hk5)
                    all_goals
                      go_wp2_with fail
                      go_meet
                      exact ⟨rfl, Z.out.1, Z.out.2.1, Z.out.2.2⟩
                  · have hpc0 : pc (K, N, .slice VA xs.length vc, xs) = form xs := by unfold pc; rw [if_neg (by omega)]; rw [if_pos hc]
                    rw [hc] at hkq
                    rw [hpc0] at D
                    clear hpc0 hc
                    have hNl2 := hNl.out
                    have e8 := Lib.hid (sBytes_form xs T hBl.out)
                    have e1 := mkS_eq xs
                    go_wp2_with fail
                    refine Txt.wp_textG [4, 5, 9] (fun u => Blk u g12 52 #[.int .i64 K, .int .u64 (N : Int), .slice VA xs.length vc] ∧ Kept [] w1 u) [[_, _], [_, _, _, _, _, _, _, _, _, _, _, _]] (by kernel_rfl) (by kernel_rfl) rfl ⟨I0.out.drew, KK.out.drew⟩ (Txt.segs_cons ?_)
                    go_wp2_with (go_at_call 12; refine (bytes_read _ _ _ D.out.drew).mono ?_; rw [e8.out]; rintro e w4 ⟨x4, rfl, ho4, _, hr5, hk5⟩; obtain ⟨XA, xc, rfl, _⟩ := ho4.shape; have Z := Lib.hid (show RdrA w4 r (0, T) ∧ Blk w4 g12 52 #[.int .i64 K, .int .u64 (N : Int), .slice VA xs.length vc] ∧ Kept [] w1 w4 from ⟨hr5, I0.out.drew.kept hk5 (by simpa using Ne.symm hne.out), kfresh KK.out hk5.from_drew hrl.out⟩); have fw := Z.out.2.1.cell 2; have hsR := run_toS (P := Try.prog) (s := 24) (d := 9) (e := 5) rfl rfl rfl (Rd.of_ow ho4); have hsB4 := run_toS (P := Try.prog) (s := 24) (d := 9) (e := 5) rfl rfl rfl (hin.out.kept0 (k1.out.then0 Z.out.2.2)); clear hr5 hk5 ho4)
                    refine ⟨rfl, ⟨Z.out.2.1, Z.out.2.2⟩, Txt.segs_cons ?_⟩
                    go_wp2_with fail
                    refine ⟨rfl, ⟨Z.out.2.1, Z.out.2.2⟩, Txt.segs_nil ⟨⟨by kernel_rfl, ?_⟩, ?_⟩⟩
                    · intro j hj o ho hw
                      have hj2 : j = 4 ∨ j = 5 ∨ j = 9 := by simpa using hj
                      rcases hj2 with rfl | rfl | rfl <;> cases ho
                      · exact ⟨146, rfl, fun u hu => exec_cell (.tmp 145) rfl flatS rfl (hu.1.cell 2)⟩
                      · exact ⟨147, rfl, fun u hu => exec_conv (.tmp 146) rfl rfl (hin.out.kept0 (k1.out.then0 hu.2))⟩
                      · exact absurd hw (by rw [show Region.wanted _ _ = false from by kernel_rfl]; simp)
                    go_wp2_with fail
                    go_meet
                    exact ⟨rfl, Z.out.1, Z.out.2.1, Z.out.2.2⟩
                  · have hpc0 : pc (K, N, .slice VA xs.length vc, xs) = fixB 32 xs := by unfold pc; rw [if_neg (by omega)]; rw [if_neg (by omega)]; rw [if_pos hc]
                    rw [hc] at hkq
                    rw [hpc0] at D
                    clear hpc0 hc
                    have hNl2 := hNl.out
                    have e8 := Lib.hid (sArr_fix 32 xs T)
                    have e1 := mkS_eq (fixB 32 xs)
                    have fx := Lib.hid (show ∀ W, Kept [] w W → Calls Try.prog 27 #[itemV K N (.slice VA xs.length vc), .int .i64 32] W fun e w' => ∃ v', e = .returned v' ∧ New W w' v' (fixB 32 xs) from fun W hk => fixed_any K N 32 _ xs W (hin.out.kept0 hk) (by omega))
                    go_wp2_with (first
                      | (go_at_call 18; refine (hash_any _ _ _ D.out).mono ?_; rw [e8.out]; rintro e w4 ⟨rfl, hr5, hk5⟩; have Z := Lib.hid (show RdrA w4 r (0, T) ∧ Blk w4 g12 52 #[.int .i64 K, .int .u64 (N : Int), .slice VA xs.length vc] ∧ Kept [] w1 w4 from ⟨hr5, I0.out.kept hk5 (by simpa using Ne.symm hne.out), kfresh KK.out hk5 hrl.out⟩); clear hr5 hk5)
                      | ((with_reducible refine wpl_new (o := ⟨some 14, _, _, _, _, _⟩) rfl rfl zero32 ?_); intro g14 x14 m14)
                      | ((with_reducible refine wpl_store_row (o := ⟨none, .store 41 (.tmp 14) (.tmp 158), _, _, _, _⟩) arr32.row rfl (.tmp 14) (.tmp 158) rfl rfl rfl m14.blk rfl (by simp [fixB_len]) (one_ab _) ?_); intro v14 b14 k14; have B14 := Lib.hid b14; have Z2 := Lib.hid (show RdrA v14 r (0, T) ∧ Blk v14 g12 52 #[.int .i64 K, .int .u64 (N : Int), .slice VA xs.length vc] ∧ Kept [] w1 v14 from ⟨(Z.out.1.kept0 m14.kept).kept1 k14 m14.blk (by decide) (m14.ne Z.out.1.lt), (Z.out.2.1.kept m14.kept (by simp)).kept k14 (by simpa using m14.ne Z.out.2.1.lt), (Z.out.2.2.then0 m14.kept).then1 k14 (Nat.le_trans Z.out.2.2.size m14.le)⟩); clear m14 b14 k14))
                    have hA : ∀ W, Blk W g14 41 (bv (fixB 32 xs)).toArray → Rd W 1 (.slice (some ⟨g14, 0, none⟩) 32 32) (fixB 32 xs).length (bv (fixB 32 xs)) := fun W h => by rw [fixB_len]; exact Blk.rd h (by simp [fixB_len]) (Nat.le_refl _)
                    have hAh := Lib.hid hA
                    clear hA
                    have hsA := run_toS (P := Try.prog) (s := 24) (d := 9) (e := 5) rfl rfl rfl (hAh.out _ B14.out.drew)
                    refine Txt.wp_textG [1, 2] (fun u => Blk u g14 41 (bv (fixB 32 xs)).toArray ∧ Blk u g12 52 #[.int .i64 K, .int .u64 (N : Int), .slice VA xs.length vc]) [[_, _, _, _], [_, _, _]] (by kernel_rfl) (by kernel_rfl) rfl ⟨B14.out.drew, Z2.out.2.1.drew⟩ (Txt.segs_cons ?_)
                    go_wp2_with (first
                      | (with_reducible refine wpl_load_row (o := ⟨some 161, _, _, _, _, _⟩) structIt rfl (.tmp 12) rfl rfl Z2.out.2.1.drew rfl ?_)
                      | (go_at_call 27; (with_reducible refine (fx.out _ (k1.out.then0 Z2.out.2.2.drew)).mono ?_); rintro e w5 ⟨pv, rfl, hp⟩; obtain ⟨PA, pcp, hpv, _⟩ := hp.ow.shape; rw [fixB_len] at hpv; subst hpv; have Z3 := Lib.hid (show RdrA w5 r (0, T) ∧ Blk w5 g12 52 #[.int .i64 K, .int .u64 (N : Int), .slice VA xs.length vc] ∧ Kept [] w1 w5 from ⟨Z2.out.1.drew.kept0 hp.kept, Z2.out.2.1.drew.kept hp.kept (by simp), Z2.out.2.2.drew.then0 hp.kept⟩); have B5 := Lib.hid (B14.out.drew.kept hp.kept (by simp)); have hpr : Rd w5 1 (.slice PA 32 pcp) (fixB 32 xs).length (bv (fixB 32 xs)) := (by have := Rd.of_ow hp.ow; rwa [fixB_len] at this ⊢); have hsP := run_toS (P := Try.prog) (s := 24) (d := 9) (e := 5) rfl rfl rfl hpr; clear hp hpr))
                    refine ⟨rfl, ⟨B5.out, Z3.out.2.1⟩, Txt.segs_cons ?_⟩
                    go_wp2_with fail
                    refine ⟨rfl, ⟨B5.out, Z3.out.2.1⟩, Txt.segs_nil ⟨⟨by kernel_rfl, ?_⟩, ?_⟩⟩
                    · intro j hj o ho hw
                      have hj2 : j = 1 ∨ j = 2 := by simpa using hj
                      rcases hj2 with rfl | rfl <;> cases ho
                      · exact ⟨160, rfl, fun u hu => exec_conv (.tmp 159) rfl rfl (hAh.out _ hu.1)⟩
                      · exact ⟨161, rfl, fun u hu => exec_load structIt (.tmp 12) rfl rfl hu.2 rfl⟩
                    go_wp2_with fail
                    go_meet
                    exact ⟨rfl, Z3.out.1, Z3.out.2.1, Z3.out.2.2⟩
                  · have hpc0 : pc (K, N, .slice VA xs.length vc, xs) = fixB 64 xs := by unfold pc; rw [if_neg (by omega)]; rw [if_neg (by omega)]; rw [if_neg (by omega)]; rw [if_pos hc]
                    rw [hc] at hkq
                    rw [hpc0] at D
                    clear hpc0 hc
                    have hNl2 := hNl.out
                    have e8 := Lib.hid (sArr_fix 64 xs T)
                    have e1 := mkS_eq (fixB 64 xs)
                    have fx := Lib.hid (show ∀ W, Kept [] w W → Calls Try.prog 27 #[itemV K N (.slice VA xs.length vc), .int .i64 64] W fun e w' => ∃ v', e = .returned v' ∧ New W w' v' (fixB 64 xs) from fun W hk => fixed_any K N 64 _ xs W (hin.out.kept0 hk) (by omega))
                    go_wp2_with (first
                      | (go_at_call 20; refine (sig_any _ _ _ D.out).mono ?_; rw [e8.out]; rintro e w4 ⟨rfl, hr5, hk5⟩; have Z := Lib.hid (show RdrA w4 r (0, T) ∧ Blk w4 g12 52 #[.int .i64 K, .int .u64 (N : Int), .slice VA xs.length vc] ∧ Kept [] w1 w4 from ⟨hr5, I0.out.kept hk5 (by simpa using Ne.symm hne.out), kfresh KK.out hk5 hrl.out⟩); clear hr5 hk5)
                      | ((with_reducible refine wpl_new (o := ⟨some 15, _, _, _, _, _⟩) rfl rfl zero64 ?_); intro g14 x14 m14)
                      | ((with_reducible refine wpl_store_row (o := ⟨none, .store 43 (.tmp 15) (.tmp 168), _, _, _, _⟩) arr64.row rfl (.tmp 15) (.tmp 168) rfl rfl rfl m14.blk rfl (by simp [fixB_len]) (one_ab _) ?_); intro v14 b14 k14; have B14 := Lib.hid b14; have Z2 := Lib.hid (show RdrA v14 r (0, T) ∧ Blk v14 g12 52 #[.int .i64 K, .int .u64 (N : Int), .slice VA xs.length vc] ∧ Kept [] w1 v14 from ⟨(Z.out.1.kept0 m14.kept).kept1 k14 m14.blk (by decide) (m14.ne Z.out.1.lt), (Z.out.2.1.kept m14.kept (by simp)).kept k14 (by simpa using m14.ne Z.out.2.1.lt), (Z.out.2.2.then0 m14.kept).then1 k14 (Nat.le_trans Z.out.2.2.size m14.le)⟩); clear m14 b14 k14))
                    have hA : ∀ W, Blk W g14 43 (bv (fixB 64 xs)).toArray → Rd W 1 (.slice (some ⟨g14, 0, none⟩) 64 64) (fixB 64 xs).length (bv (fixB 64 xs)) := fun W h => by rw [fixB_len]; exact Blk.rd h (by simp [fixB_len]) (Nat.le_refl _)
                    have hAh := Lib.hid hA
                    clear hA
                    have hsA := run_toS (P := Try.prog) (s := 24) (d := 9) (e := 5) rfl rfl rfl (hAh.out _ B14.out.drew)
                    refine Txt.wp_textG [1, 2] (fun u => Blk u g14 43 (bv (fixB 64 xs)).toArray ∧ Blk u g12 52 #[.int .i64 K, .int .u64 (N : Int), .slice VA xs.length vc]) [[_, _, _, _], [_, _, _]] (by kernel_rfl) (by kernel_rfl) rfl ⟨B14.out.drew, Z2.out.2.1.drew⟩ (Txt.segs_cons ?_)
                    go_wp2_with (first
                      | (with_reducible refine wpl_load_row (o := ⟨some 171, _, _, _, _, _⟩) structIt rfl (.tmp 12) rfl rfl Z2.out.2.1.drew rfl ?_)
                      | (go_at_call 27; (with_reducible refine (fx.out _ (k1.out.then0 Z2.out.2.2.drew)).mono ?_); rintro e w5 ⟨pv, rfl, hp⟩; obtain ⟨PA, pcp, hpv, _⟩ := hp.ow.shape; rw [fixB_len] at hpv; subst hpv; have Z3 := Lib.hid (show RdrA w5 r (0, T) ∧ Blk w5 g12 52 #[.int .i64 K, .int .u64 (N : Int), .slice VA xs.length vc] ∧ Kept [] w1 w5 from ⟨Z2.out.1.drew.kept0 hp.kept, Z2.out.2.1.drew.kept hp.kept (by simp), Z2.out.2.2.drew.then0 hp.kept⟩); have B5 := Lib.hid (B14.out.drew.kept hp.kept (by simp)); have hpr : Rd w5 1 (.slice PA 64 pcp) (fixB 64 xs).length (bv (fixB 64 xs)) := (by have := Rd.of_ow hp.ow; rwa [fixB_len] at this ⊢); have hsP := run_toS (P := Try.prog) (s := 24) (d := 9) (e := 5) rfl rfl rfl hpr; clear hp hpr))
                    refine ⟨rfl, ⟨B5.out, Z3.out.2.1⟩, Txt.segs_cons ?_⟩
                    go_wp2_with fail
                    refine ⟨rfl, ⟨B5.out, Z3.out.2.1⟩, Txt.segs_nil ⟨⟨by kernel_rfl, ?_⟩, ?_⟩⟩
                    · intro j hj o ho hw
                      have hj2 : j = 1 ∨ j = 2 := by simpa using hj
                      rcases hj2 with rfl | rfl <;> cases ho
                      · exact ⟨170, rfl, fun u hu => exec_conv (.tmp 169) rfl rfl (hAh.out _ hu.1)⟩
                      · exact ⟨171, rfl, fun u hu => exec_load structIt (.tmp 12) rfl rfl hu.2 rfl⟩
                    go_wp2_with fail
                    go_meet
                    exact ⟨rfl, Z3.out.1, Z3.out.2.1, Z3.out.2.2⟩
                  · have hpc0 : pc (K, N, .slice VA xs.length vc, xs) = be8 (N % 65537) := by unfold pc; rw [if_neg (by omega)]; rw [if_neg (by omega)]; rw [if_neg (by omega)]; rw [if_neg (by omega)]
                    rw [hc] at hkq
                    rw [hpc0] at D
                    clear hpc0 hc
                    have hNl2 := hNl.out
                    obtain ⟨N5, hN5⟩ : ∃ N5, N5 = N % 65537 := ⟨_, rfl⟩
                    have hmod : (N : Int) % 65537 = (N5 : Int) := by omega
                    have hN5b : N5 ≤ 65536 := by omega
                    have htm : (N : Int).tmod 65537 = (N5 : Int) := by rw [Int.tmod_eq_emod_of_nonneg (by omega)]; exact hmod
                    have hwr : IntKind.i64.wrap (N5 : Int) = (N5 : Int) := wrap_i N5 hN5b
                    rw [← hN5] at D
                    clear hN5
                    have e8 := Lib.hid (sBnd_num N5 T hN5b)
                    go_wp2_with fail
                    have fd1 := I0.out.drew.cell 1
                    go_region_with (go_at_call 13; refine (count_any _ _ _ D.out.drew).mono ?_; rw [e8.out]; rintro e w4 ⟨rfl, hr5, hk5⟩; have Z := Lib.hid (show RdrA w4 r (0, T) ∧ Blk w4 g12 52 #[.int .i64 K, .int .u64 (N : Int), .slice VA xs.length vc] ∧ Kept [] w1 w4 from ⟨hr5, I0.out.drew.kept hk5 (by simpa using Ne.symm hne.out), kfresh KK.out hk5.from_drew hrl.out⟩); have fw := Z.out.2.1.cell 1; clear hr5 hk5)
                    all_goals
                      go_wp2_with fail
                      go_meet
                      exact ⟨rfl, Z.out.1, Z.out.2.1, Z.out.2.2⟩
                case rest =>
                  obtain ⟨rfl, hrc, hbc, hkc⟩ := hcut
                  have f0 := hbc.cell 0
                  have f2 := hbc.cell 2
                  have hkq := kd_q (K, N, .slice VA xs.length vc, xs)
                  dsimp only at hkq
                  have C := Lib.hid (And.intro hrc hkc)
                  have hB5 := hBl.out
                  clear hrc hbc hkc
                  generalize kd (K, N, .slice VA xs.length vc, xs) = q at *
                  by_cases hq1 : q = 1
                  · subst hq1
                    go_wp2_with fail
                    go_roundg (ls.length - (k + 1))
                    case measure => omega
                    case rel => exact ⟨k + 1, by omega, by go_num, by rw [← hT.out]; exact C.out.1, C.out.2⟩
                  · go_wp2_with fail
                    go_roundg (ls.length - (k + 1))
                    case measure => omega
                    case rel => exact ⟨k + 1, by omega, by go_num, by rw [← hT.out]; exact C.out.1, C.out.2⟩
              · rw [show ls.drop k = [] from List.drop_eq_nil_of_le (by omega)] at hrd
                have D := Lib.hid hrd
                have KK := Lib.hid hkk
                have s0 : sDone (0, pcs []) = 0 := rfl
                clear hrd hkk
                go_wp2_with (go_at_call 14; refine (done_any _ _ _ D.out).mono ?_; rintro e w' ⟨rfl, rfl⟩)
                go_ret
                exact ⟨rfl, k1.out.then0 KK.out⟩
end Go.Proofs.Ytbhjhfemicbhaaa
