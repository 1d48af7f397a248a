/-
  The document's curve: digits stand for numbers modulo p; cells of its points.
-/
import Derived.Test.YtkflljjcgihaoaaRf10
import Derived.Test.YtkflljjcgihaoaaLw1
namespace Go.Proofs.Ytkflljjcgihaoaa
open Go.RowKit Go.Mem Go.Txt

/-- Digits stand for a number modulo p. -/
structure Dq (M : Int) (d : Nat → Int) (a : Ed.Fq) : Prop where
  sm : Sm M d
  val : dv d 16 % PZ = ((a.v : Nat) : Int)
theorem Dr.q {d : Nat → Int} {x : Nat} (h : Dr d x) : Dq 70000 d (Ed.mk x) := ⟨h.sm, h.val⟩
theorem Dq.dr {d : Nat → Int} {a : Ed.Fq} (h : Dq 70000 d a) : Dr d a.v := ⟨h.sm, by rw [h.val, Nat.mod_eq_of_lt (v_lt a)]⟩
theorem Dq.db {M : Int} {d : Nat → Int} {a : Ed.Fq} (h : Dq M d a) (hM : M ≤ 280000) : Db d a.v := ⟨h.sm.le hM, by rw [h.val, Nat.mod_eq_of_lt (v_lt a)]⟩
theorem Dq.to {M : Int} {d : Nat → Int} {a b : Ed.Fq} (h : Dq M d a) (e : a = b) : Dq M d b := e ▸ h
abbrev RmC (a b r : Nat → Int) : Prop := ∀ W, Calls Try.prog 46 #[nu a, nu b] W fun e w' => e = .returned (nu r) ∧ Kept [] W w'
abbrev RaC (a b r : Nat → Int) : Prop := ∀ W, Calls Try.prog 61 #[nu a, nu b] W fun e w' => e = .returned (nu r) ∧ Kept [] W w'
abbrev RsC (a b r : Nat → Int) : Prop := ∀ W, Calls Try.prog 47 #[nu a, nu b] W fun e w' => e = .returned (nu r) ∧ Kept [] W w'
abbrev RoC (z : Int) (r : Nat → Int) : Prop := ∀ W, Calls Try.prog 48 #[.int .u64 z] W fun e w' => e = .returned (nu r) ∧ Kept [] W w'
abbrev RiC (a r : Nat → Int) : Prop := ∀ W, Calls Try.prog 60 #[nu a] W fun e w' => e = .returned (nu r) ∧ Kept [] W w'
abbrev RpC (a : Nat → Int) (n l : Int) (r : Nat → Int) : Prop := ∀ W, Calls Try.prog 75 #[nu a, .int .i64 n, .int .u64 l] W fun e w' => e = .returned (nu r) ∧ Kept [] W w'
abbrev RkC (a : Nat → Int) (l : List UInt8) : Prop := ∀ W, Calls Try.prog 45 #[nu a] W fun e w' => e = .returned (ab l) ∧ Kept [] W w'
abbrev RlC (l : List UInt8) (r : Nat → Int) : Prop := ∀ W, Calls Try.prog 43 #[ab l] W fun e w' => e = .returned (nu r) ∧ Kept [] W w'
abbrev ReC (a b : Nat → Int) (r : Bool) : Prop := ∀ W, Calls Try.prog 76 #[nu a, nu b] W fun e w' => e = .returned (.bool r) ∧ Kept [] W w'
abbrev RgC (l : List UInt8) (r : Bool) : Prop := ∀ W, Calls Try.prog 42 #[ab l] W fun e w' => e = .returned (.bool r) ∧ Kept [] W w'
theorem v_mod (x : Nat) : (((Ed.mk x).v : Nat) : Int) = (x : Int) % PZ := by rw [PZ_eq]; rfl
theorem rmul_d {M N : Int} {d e : Nat → Int} {a b : Ed.Fq} (h : Dq M d a) (h2 : Dq N e b) (hM : M ≤ 280000) (hN : N ≤ 280000) : ∃ r, RmC d e r ∧ Dq 70000 r (a * b) := by
  refine ⟨muN d e, fun W => rmul_big d e (h.sm.le hM) (h2.sm.le hN) W, muN_smB (h.sm.le hM) (h2.sm.le hN), ?_⟩
  rw [muN_val, Int.mul_emod, h.val, h2.val, ← Int.natCast_mul, PZ_eq]
  rfl
theorem dv_sN (a b : Nat → Int) : ∀ n, dv (sN a b) n = dv a n - dv b n
  | 0 => rfl
  | n + 1 => by rw [dv, dv, dv, dv_sN a b n]; unfold sN; grind
theorem radd_d {M N : Int} {d e : Nat → Int} {a b : Ed.Fq} (h : Dq M d a) (h2 : Dq N e b) (hM : M ≤ 280000) (hN : N ≤ 280000) : ∃ r, RaC d e r ∧ Dq (M + N) r (a + b) := by
  refine ⟨aN d e, fun W => radd_big d e (h.sm.le hM) (h2.sm.le hN) W, fun i hi => ?_, ?_⟩
  · have := h.sm i hi
    have := h2.sm i hi
    unfold aN
    omega
  · rw [dv_add, Int.add_emod, h.val, h2.val, ← Int.natCast_add, PZ_eq]
    rfl
theorem rsub_d {M N : Int} {d e : Nat → Int} {a b : Ed.Fq} (h : Dq M d a) (h2 : Dq N e b) (hM : M ≤ 280000) (hN : N ≤ 280000) : ∃ r, RsC d e r ∧ Dq (M + N) r (a - b) := by
  refine ⟨sN d e, fun W => rsub_big d e (h.sm.le hM) (h2.sm.le hN) W, fun i hi => ?_, ?_⟩
  · have := h.sm i hi
    have := h2.sm i hi
    unfold sN
    omega
  · have hb := v_lt b
    have e1 : (((a - b).v : Nat) : Int) = ((a.v : Int) - (b.v : Int)) % PZ := by
      have e2 : (a - b).v = (a.v + (PP - b.v) % PP) % PP := rfl
      rw [e2, Int.natCast_emod, Int.natCast_add, Int.natCast_emod, Int.natCast_sub (Nat.le_of_lt hb), PZ_eq, Int.add_emod_emod, show (a.v : Int) + ((PP : Int) - (b.v : Int)) = (a.v : Int) - (b.v : Int) + (PP : Int) from by omega, Int.add_emod_right]
    rw [e1, dv_sN, Int.sub_emod, h.val, h2.val]
theorem of_d (v : Nat) {z : Int} (hv : v < 18446744073709551616) (hz : ((v : Nat) : Int) = z) : ∃ r, RoC z r ∧ Dq 70000 r (Ed.mk v) := by
  subst hz
  exact ⟨dgN v, fun W => of_any v hv W, (dr_dgN v (Nat.lt_trans hv (by decide))).q⟩
theorem rpow_d {M : Int} {d : Nat → Int} {a : Ed.Fq} (h : Dq M d a) (hM : M ≤ 280000) (n l : Nat) {zn zl : Int} (en : ((n : Nat) : Int) = zn) (el : ((l : Nat) : Int) = zl) (hn : n ≤ 1000) (hl : l ≤ 2 ^ n) (hl2 : l < 1000) : ∃ r, RpC d zn zl r ∧ Dq 70000 r (Ed.mk (a.v ^ (2 ^ n - l))) := by
  subst en el
  exact ⟨powN d n l, fun W => power_big d a.v n l (h.db hM) hn hl hl2 W, (dr_powB (h.db hM) n l).q⟩
def IE : Nat := PP - 2
theorem IE_eq : 2 ^ 255 - 21 = IE := by decide +kernel
theorem IE_pe : IE = Ed.pe := by unfold IE Ed.pe; rfl
set_option maxRecDepth 100000 in
set_option maxHeartbeats 1600000 in
theorem rinv_d {M : Int} {d : Nat → Int} {a : Ed.Fq} (h : Dq M d a) (hM : M ≤ 280000) : ∃ r, RiC d r ∧ Dq 70000 r (Ed.inv a) := by
  obtain ⟨r, c, hr⟩ := rpow_d h hM 255 21 (zn := 255) (zl := 21) rfl rfl (by omega) (by decide +kernel) (by omega)
  rw [IE_eq, IE_pe] at hr
  refine ⟨r, ?_, hr⟩
  intro w
  have cp := Lib.hid c
  clear h c hr
  go_enter Try.func60, Try.ntmps60
  go_wp2_with (first
    | ((with_reducible refine wpl_box (o := ⟨some 1, _, _, _, _, _⟩) (v := nu d) rfl (.tmp 0) rfl rfl ?_); intro g1 w1 m1)
    | ((with_reducible refine wpl_new (o := ⟨some 2, _, _, _, _, _⟩) rfl rfl zeroN ?_); intro g2 w2 m2)
    | (with_reducible refine wpl_load_row (o := ⟨some 3, _, _, _, _, _⟩) arrN.row rfl (.tmp 1) rfl rfl (m1.blk.kept m2.kept (by simp)) rfl ?_)
    | (go_at_call 75; (with_reducible refine (cp.out _).mono ?_); rintro e x1 ⟨rfl, kk1⟩)
    | ((with_reducible refine wpl_store_row (o := ⟨none, .store 34 (.tmp 2) (.tmp 4), _, _, _, _⟩) arrN.row rfl (.tmp 2) (.tmp 4) rfl rfl rfl (m2.blk.kept kk1 (by simp)) rfl rfl (one_nu _) ?_); intro v2 b2 k2))
  exact ret_row arrN.row rfl rfl b2 rfl rfl ⟨rfl, ((m1.kept.then0 m2.kept).then0 kk1).then1 k2 (Nat.le_trans m1.kept.size m2.le)⟩
theorem rpack_d {M : Int} {d : Nat → Int} {a : Ed.Fq} (h : Dq M d a) (hM : M ≤ 4611686018427387904) : RkC d (le a.v 32) :=
  pack_le d (h.sm.le hM) a.v a.v (by rw [h.val, PZ_eq, ← Int.natCast_emod, Nat.mod_eq_of_lt (v_lt a)]) (Nat.mod_eq_of_lt (v_lt a))
theorem rload_d {l : List UInt8} (hl : l.length = 32) : ∃ r, RlC l r ∧ Dq 70000 r (Ed.mk (leV l % T255)) :=
  ⟨_, fun W => load_any l hl W, (dr_dgN (leV l % T255) (Nat.lt_trans (Nat.mod_lt _ (by decide +kernel)) (by decide +kernel))).q⟩
theorem enters_radd (xs : Array Value) (w : World) : (callFunc 61 xs).run Try.prog w = .ok (.enter 61 xs) w := enters_of (c := _) Try.func61 (by kernel_rfl) rfl xs w
theorem enters_rsub (xs : Array Value) (w : World) : (callFunc 47 xs).run Try.prog w = .ok (.enter 47 xs) w := enters_of (c := _) Try.func47 (by kernel_rfl) rfl xs w
theorem enters_rmul (xs : Array Value) (w : World) : (callFunc 46 xs).run Try.prog w = .ok (.enter 46 xs) w := enters_of (c := _) Try.func46 (by kernel_rfl) rfl xs w
theorem enters_rinv (xs : Array Value) (w : World) : (callFunc 60 xs).run Try.prog w = .ok (.enter 60 xs) w := enters_of (c := _) Try.func60 (by kernel_rfl) rfl xs w
theorem enters_rof (xs : Array Value) (w : World) : (callFunc 48 xs).run Try.prog w = .ok (.enter 48 xs) w := enters_of (c := _) Try.func48 (by kernel_rfl) rfl xs w
theorem enters_rpow (xs : Array Value) (w : World) : (callFunc 75 xs).run Try.prog w = .ok (.enter 75 xs) w := enters_of (c := _) Try.func75 (by kernel_rfl) rfl xs w
theorem enters_rpack (xs : Array Value) (w : World) : (callFunc 45 xs).run Try.prog w = .ok (.enter 45 xs) w := enters_of (c := _) Try.func45 (by kernel_rfl) rfl xs w
theorem enters_rload (xs : Array Value) (w : World) : (callFunc 43 xs).run Try.prog w = .ok (.enter 43 xs) w := enters_of (c := _) Try.func43 (by kernel_rfl) rfl xs w
theorem enters_rgood (xs : Array Value) (w : World) : (callFunc 42 xs).run Try.prog w = .ok (.enter 42 xs) w := enters_of (c := _) Try.func42 (by kernel_rfl) rfl xs w
theorem enters_rsame (xs : Array Value) (w : World) : (callFunc 76 xs).run Try.prog w = .ok (.enter 76 xs) w := enters_of (c := _) Try.func76 (by kernel_rfl) rfl xs w

/-- A point of the document's: four numbers' digits. -/
structure R4 where
  x : Nat → Int
  y : Nat → Int
  z : Nat → Int
  t : Nat → Int
def R4.c (p : R4) : List Value := iv (fam 16 p.x) ++ (iv (fam 16 p.y) ++ (iv (fam 16 p.z) ++ iv (fam 16 p.t)))
abbrev R4.v (p : R4) : Value := .agg p.c.toArray
theorem iv16 (d : Nat → Int) : (iv (fam 16 d)).length = 16 := by simp [fam_len]
theorem R4.len (p : R4) : p.c.length = 64 := by simp [R4.c, fam_len]
theorem R4.size (p : R4) : p.c.toArray.size = 64 := by rw [List.size_toArray, R4.len]
theorem R4.one (p : R4) : p.c.toArray.all (·.oneCell') = true := by
  rw [Array.all_eq_true_iff_forall_mem]
  intro v hv
  have h : v ∈ p.c := by simpa using hv
  unfold R4.c at h
  simp only [List.mem_append] at h
  rcases h with h | h | h | h <;> exact one_iv _ v h
def rz : R4 := ⟨zd, zd, zd, zd⟩
theorem structRt : RowT Try.prog 39 64 := ⟨⟨_, Try.underlying39, rfl⟩, by kernel_rfl⟩
theorem zeroRt : (Try.prog.info? 39).map (·.zero) = some (some rz.v) := by kernel_rfl
theorem structCv : RowT Try.prog 36 16 := ⟨⟨_, Try.underlying36, rfl⟩, by kernel_rfl⟩
theorem zeroCv : (Try.prog.info? 36).map (·.zero) = some (some (nu zd)) := by kernel_rfl
theorem R4.px {p : R4} {u : World} {g : Nat} {bt : TypeId} (h : Blk u g bt p.c.toArray) : u.rangeAt g 0 (iv (fam 16 p.x)) := Blk.range (pre := []) h rfl
theorem R4.py {p : R4} {u : World} {g : Nat} {bt : TypeId} (h : Blk u g bt p.c.toArray) : u.rangeAt g 16 (iv (fam 16 p.y)) := Blk.range (pre := iv (fam 16 p.x)) h (iv16 _)
theorem R4.pz {p : R4} {u : World} {g : Nat} {bt : TypeId} (h : Blk u g bt p.c.toArray) : u.rangeAt g 32 (iv (fam 16 p.z)) := Blk.range (pre := iv (fam 16 p.x) ++ iv (fam 16 p.y)) (post := iv (fam 16 p.t)) (by unfold R4.c at h; rwa [List.append_assoc]) (by simp [fam_len])
theorem R4.pt {p : R4} {u : World} {g : Nat} {bt : TypeId} (h : Blk u g bt p.c.toArray) : u.rangeAt g 48 (iv (fam 16 p.t)) := Blk.range (pre := iv (fam 16 p.x) ++ iv (fam 16 p.y) ++ iv (fam 16 p.z)) (post := []) (by unfold R4.c at h; rwa [List.append_assoc, List.append_assoc, List.append_nil]) (by simp [fam_len])
theorem cv_d {d : Nat → Int} {u : World} {g : Nat} {bt : TypeId} (h : Blk u g bt (iv (fam 16 d)).toArray) : u.rangeAt g 0 (iv (fam 16 d)) := Blk.range (pre := []) (post := []) (by rw [List.nil_append, List.append_nil]; exact h) rfl
theorem rfa0 (g : Nat) (W : World) : (Instr.fieldAt 39 (.pointer (some ⟨g, 0, none⟩)) 0).run Try.prog W = .ok (.pointer (some ⟨g, 0, none⟩)) W := by kernel_rfl
theorem rfa1 (g : Nat) (W : World) : (Instr.fieldAt 39 (.pointer (some ⟨g, 0, none⟩)) 1).run Try.prog W = .ok (.pointer (some ⟨g, 16, none⟩)) W := by kernel_rfl
theorem rfa2 (g : Nat) (W : World) : (Instr.fieldAt 39 (.pointer (some ⟨g, 0, none⟩)) 2).run Try.prog W = .ok (.pointer (some ⟨g, 32, none⟩)) W := by kernel_rfl
theorem rfa3 (g : Nat) (W : World) : (Instr.fieldAt 39 (.pointer (some ⟨g, 0, none⟩)) 3).run Try.prog W = .ok (.pointer (some ⟨g, 48, none⟩)) W := by kernel_rfl
theorem cfa0 (g : Nat) (W : World) : (Instr.fieldAt 36 (.pointer (some ⟨g, 0, none⟩)) 0).run Try.prog W = .ok (.pointer (some ⟨g, 0, none⟩)) W := by kernel_rfl
theorem built_r4 (x y z t : Nat → Int) : Try.prog.built 39 [(0, nu x), (1, nu y), (2, nu z), (3, nu t)] = some (R4.mk x y z t).c.toArray := by kernel_rfl
theorem built_r3 (x y z : Nat → Int) : Try.prog.built 39 [(0, nu x), (1, nu y), (2, nu z)] = some (R4.mk x y z zd).c.toArray := by kernel_rfl
theorem built_r2 (y z : Nat → Int) : Try.prog.built 39 [(1, nu y), (2, nu z)] = some (R4.mk zd y z zd).c.toArray := by kernel_rfl
theorem built_cv (d : Nat → Int) : Try.prog.built 36 [(0, nu d)] = some (iv (fam 16 d)).toArray := by kernel_rfl
theorem built_n0 : Try.prog.built 34 [] = some (iv (fam 16 zd)).toArray := by kernel_rfl
theorem built_r0 : Try.prog.built 39 [] = some rz.c.toArray := by kernel_rfl
/-- Digits of a point. -/
structure Rr (p : R4) (P : Ed.Pt) : Prop where
  e : ∃ x y z : Ed.Fq, Dq 70000 p.x x ∧ Dq 70000 p.y y ∧ Dq 70000 p.z z ∧ z ≠ 0 ∧ P.x * z = x ∧ P.y * z = y
end Go.Proofs.Ytkflljjcgihaoaa
