/-
  Slots: both tallies side by side: what the walk of SlotsPlay calls.
-/
import Derived.Test.YthffkgnbgncfaaaSp7
import Derived.Test.YthffkgnbgncfaaaLwOrd
namespace Go.Proofs.Ythffkgnbgncfaaa
open Go.RowKit Go.Mem Go.Txt

/-- An event. -/
structure Ev where
  fr : Int
  vw : Int
  h : UInt8
  s : UInt8
  fg : Bool
def Ev.c (o : Ev) : List Value := [.int .i64 o.fr, .int .i64 o.vw, .int .u8 o.h.toNat, .int .u8 o.s.toNat, .bool o.fg]
def Ev.x (o : Ev) : Vt := vt o.fr o.vw o.h (sv o.s)
theorem Ev.ok (o : Ev) : o.x.ok := vt_ok _ _ _ (sv_len _)
abbrev evs (l : List Ev) : List Value := l.flatMap Ev.c
theorem evs_len (l : List Ev) : (evs l).length = l.length * 5 := by
  induction l with
  | nil => rfl
  | cons a l ih => rw [evs, List.flatMap_cons, List.length_append, ih, List.length_cons]; simp [Ev.c]; omega
theorem evs_split {l : List Ev} (i : Nat) (hi : i < l.length) : evs l = evs (l.take i) ++ (l[i].c ++ evs (l.drop (i + 1))) := by
  have : l = l.take i ++ (l[i] :: l.drop (i + 1)) := by rw [← List.drop_eq_getElem_cons hi, List.take_append_drop]
  rw [evs, evs, evs, ← List.flatMap_cons, ← List.flatMap_append, ← this]
theorem ev_rng {w : World} {l : List Ev} {g o c : Nat} (h : Rd w 5 (.slice (some ⟨g, o, none⟩) l.length c) l.length (evs l)) {i : Nat} (hi : i < l.length) : w.rangeAt g (o + i * 5) l[i].c := by
  refine h.elem (pre := evs (l.take i)) (post := evs (l.drop (i + 1))) (evs_split i hi) ?_ (by omega)
  rw [evs_len, List.length_take, Nat.min_eq_left (by omega)]
theorem opR : RowT Try.prog 47 5 := ⟨⟨_, Try.underlying47, rfl⟩, by kernel_rfl⟩
def opz : Value := .agg #[.int .i64 0, .int .i64 0, .int .u8 0, .int .u8 0, .bool false]
theorem opz_info : (Try.prog.info? 47).map (·.zero) = some (some opz) := by kernel_rfl
theorem one_ev (o : Ev) : (o.c.toArray).all (·.oneCell') = true := by rw [Array.all_eq_true_iff_forall_mem]; intro u hu; simp [Ev.c] at hu; rcases hu with rfl | rfl | rfl | rfl | rfl <;> rfl
/-- Blocks of other types stay. -/
def KpT (u w' : World) : Prop := ∀ (k : Nat) (bt : TypeId) (cs : Array Value), bt ≠ 58 → bt ≠ 63 → bt ≠ 45 → bt ≠ 51 → Blk u k bt cs → Blk w' k bt cs
theorem KpT.trans {u v w : World} (h : KpT u v) (h2 : KpT v w) : KpT u w := fun k bt cs a b c d x => h2 k bt cs a b c d (h k bt cs a b c d x)
theorem KpT.of0 {u w : World} (h : Kept [] u w) : KpT u w := fun _ _ _ _ _ _ _ x => x.kept h (by simp)
/-- Both tallies, that came since. -/
structure PlI (w0 u : World) (G R F : Nat) (ts rl : List Vt) (V W : Value) : Prop where
  t : Tl u G F ts V
  r : Rt u R F rl W
  k : Kept [] w0 u
  lg : w0.heap.size ≤ G
  lr : w0.heap.size ≤ R
  vg : ∀ k, V.ownBlock = some k → w0.heap.size ≤ k
  vr : ∀ k, W.ownBlock = some k → w0.heap.size ≤ k
def PlM (w0 u : World) (g r f : Nat) (ts rl : List Vt) : Prop := ∃ v vr, PlI w0 u g r f ts rl v vr
section
variable {w0 u u' : World} {g r f : Nat} {ts rl ts' : List Vt}
theorem PlM.k (h : PlM w0 u g r f ts rl) : Kept [] w0 u := by obtain ⟨v, vr, h⟩ := h; exact h.k
theorem PlM.kept (h : PlM w0 u g r f ts rl) (hk : Kept [] u u') : PlM w0 u' g r f ts rl := by
  obtain ⟨v, vr, h⟩ := h
  exact ⟨v, vr, h.t.kept hk, h.r.kept hk, h.k.then0 hk, h.lg, h.lr, h.vg, h.vr⟩
/-- One block of another type, that came since, is written. -/
theorem PlM.put (h : PlM w0 u g r f ts rl) {k : Nat} {bt : TypeId} {cs : Array Value} (hb : Blk u k bt cs) (hl : w0.heap.size ≤ k) (n1 : 58 ≠ bt) (n2 : 63 ≠ bt) (n3 : 45 ≠ bt) (n4 : 51 ≠ bt) (hk : Kept [k] u u') : PlM w0 u' g r f ts rl := by
  obtain ⟨v, vr, h⟩ := h
  have e1 := h.t.b.ne_ hb n1
  have e2 := h.r.b.ne_ hb n3
  have e3 := h.t.o.blk_ne hb n2
  have e4 := h.r.o.blk_ne hb n4
  refine ⟨v, vr, ⟨h.t.b.kept hk (by simpa using e1), h.t.o.kept hk (fun j hj => by rintro hm; rw [List.mem_singleton.1 hm] at hj; exact e3 hj), h.t.ok, h.t.srt, h.t.n⟩, ⟨h.r.b.kept hk (by simpa using e2), h.r.o.kept hk (fun j hj => by rintro hm; rw [List.mem_singleton.1 hm] at hj; exact e4 hj), h.r.ok, h.r.n⟩, h.k.then1 hk hl, h.lg, h.lr, h.vg, h.vr⟩
theorem kpt_own {k g : Nat} {bt bt2 e : TypeId} {cs cs2 : Array Value} {v : Value} {n s : Nat} {xs : List Value} (hb : Blk u k bt cs) (h2 : Blk u g bt2 cs2) (ho : Ow u e s v n xs) (n1 : bt ≠ bt2) (n2 : bt ≠ e) : k ∉ g :: v.ownBlock.toList := by
  simp only [List.mem_cons, not_or]
  exact ⟨hb.ne_ h2 n1, notin_own (ho.blk_ne hb (Ne.symm n2))⟩
theorem PlM.add (h : PlM w0 u g r f ts rl) (hf : f ≤ 2) {x : Vt} (hx : x.ok) (hn : ts.length < 1000000) : AddC u g x fun e w' => e = .returned (.bool (okv f ts x)) ∧ PlM w0 w' g r f (addv f ts x) rl ∧ KpT u w' := by
  obtain ⟨v, vr, h⟩ := h
  refine (add_any h.t (by omega) hx (by omega)).mono ?_
  rintro e w' ⟨rfl, v', t', k', n'⟩
  obtain ⟨y, z⟩ := ft_grow h.k h.lg h.vg k' n'
  refine ⟨rfl, ⟨v', vr, t', ⟨h.r.b.kept k' (kpt_own h.r.b h.t.b h.t.o (by decide) (by decide)), h.r.o.kept k' (fun j hj => ?_), h.r.ok, h.r.n⟩, y, h.lg, h.lr, z, h.vr⟩, fun k bt cs a b c d hb => hb.kept k' (kpt_own hb h.t.b h.t.o a b)⟩
  simp only [List.mem_cons, not_or]
  exact ⟨fun e => h.r.o.blk_ne h.t.b (by decide) (e ▸ hj), notin_own fun e => h.r.o.ne_ h.t.o (by decide) j hj e⟩
theorem PlM.radd (h : PlM w0 u g r f ts rl) (hf : f ≤ 2) {x : Vt} (hx : x.ok) (hn : rl.length + 1 < 1000000) : Calls Try.prog 14 #[.pointer (some ⟨r, 0, none⟩), .agg x.c.toArray] u fun e w' => e = .returned (.bool (okv f rl x)) ∧ PlM w0 w' g r f ts (if okv f rl x then rl ++ [x] else rl) ∧ KpT u w' := by
  obtain ⟨v, vr, h⟩ := h
  refine (radd_any h.r (by omega) hx hn).mono ?_
  rintro e w' ⟨rfl, v', t', k', n'⟩
  obtain ⟨y, z⟩ := ft_grow h.k h.lr h.vr k' n'
  refine ⟨rfl, ⟨v, v', ⟨h.t.b.kept k' (kpt_own h.t.b h.r.b h.r.o (by decide) (by decide)), h.t.o.kept k' (fun j hj => ?_), h.t.ok, h.t.srt, h.t.n⟩, t', y, h.lg, h.lr, h.vg, z⟩, fun k bt cs a b c d hb => hb.kept k' (kpt_own hb h.r.b h.r.o c d)⟩
  simp only [List.mem_cons, not_or]
  exact ⟨fun e => h.t.o.blk_ne h.r.b (by decide) (e ▸ hj), notin_own fun e => h.t.o.ne_ h.r.o (by decide) j hj e⟩
theorem PlM.forget (h : PlM w0 u g r f ts rl) (hi : inR f ts) (vw : Int) : Calls Try.prog 12 #[.pointer (some ⟨g, 0, none⟩), .int .i64 vw] u fun e w' => e = .returned (.tuple #[]) ∧ PlM w0 w' g r f (ts.filter fun v => decide (vw ≤ v.vw)) rl ∧ KpT u w' := by
  obtain ⟨v, vr, h⟩ := h
  refine (forget_any h.t hi vw).mono ?_
  rintro e w' ⟨rfl, v', t', k', n'⟩
  obtain ⟨y, z⟩ := ft_grow h.k h.lg h.vg k' (.inl n')
  refine ⟨rfl, ⟨v', vr, t', ⟨h.r.b.kept k' (kpt_own h.r.b h.t.b h.t.o (by decide) (by decide)), h.r.o.kept k' (fun j hj => ?_), h.r.ok, h.r.n⟩, y, h.lg, h.lr, z, h.vr⟩, fun k bt cs a b c d hb => hb.kept k' (kpt_own hb h.t.b h.t.o a b)⟩
  simp only [List.mem_cons, not_or]
  exact ⟨fun e => h.r.o.blk_ne h.t.b (by decide) (e ▸ hj), notin_own fun e => h.r.o.ne_ h.t.o (by decide) j hj e⟩
theorem PlM.rforget (h : PlM w0 u g r f ts rl) (vw : Int) : Calls Try.prog 13 #[.pointer (some ⟨r, 0, none⟩), .int .i64 vw] u fun e w' => e = .returned (.tuple #[]) ∧ PlM w0 w' g r f ts (rfor vw rl) ∧ KpT u w' := by
  obtain ⟨v, vr, h⟩ := h
  refine (rforget_any h.r vw).mono ?_
  rintro e w' ⟨rfl, v', t', k', n'⟩
  have hne := h.t.b.ne_ h.r.b (by decide)
  refine ⟨rfl, ⟨v, v', ⟨h.t.b.kept k' (by simpa using hne), h.t.o.kept k' (fun j hj => ?_), h.t.ok, h.t.srt, h.t.n⟩, t', h.k.then1 k' h.lr, h.lg, h.lr, h.vg, fun k hk => Nat.le_trans h.k.size (n' k hk)⟩, fun k bt cs a b c d hb => hb.kept k' (by simpa using hb.ne_ h.r.b c)⟩
  simp only [List.mem_singleton]
  exact fun e => h.t.o.blk_ne h.r.b (by decide) (e ▸ hj)
theorem PlM.ofs (h : PlM w0 u g r f ts rl) (hf : f ≤ 2) (hi : inR f ts) (vw : Int) : Ofs u (.pointer (some ⟨g, 0, none⟩)) vw (ofv ts vw) := by
  obtain ⟨v, vr, h⟩ := h
  exact h.t.ofs (by omega) hi vw
/-- Shares of ours. -/
theorem PlM.shs (h : PlM w0 u g r f ts rl) (hf : f ≤ 2) (hi : inR f ts) (vw : Int) {hh : List UInt8} (hl : hh.length = 32) {S : List Vt} (hS : saidv (ofv ts vw) hh = S) :
    Calls Try.prog 10 #[.pointer (some ⟨g, 0, none⟩), .int .i64 vw, ab hh] u fun e w' => ∃ A c, e = .returned (.slice A S.length c) ∧ Rd w' 65 (.slice A S.length c) S.length (Go.Proofs.Ythffkgnbgncfaaa.shs S) ∧ Kept [] u w' := by
  subst hS
  refine (shares_any (h.ofs hf hi vw) hl).mono ?_
  rintro e w' ⟨v, rfl, o, kk, _⟩
  obtain ⟨A, c, rfl, _⟩ := o.shape
  exact ⟨A, c, rfl, Rd.of_ow o, kk⟩
/-- Shares of the document's. -/
theorem PlM.rshs (h : PlM w0 u g r f ts rl) (hf : f ≤ 2) (vw : Int) {hh : List UInt8} (hl : hh.length = 32) {S : List Vt} (hS : rsh rl vw hh (3 * f + 1) = S) :
    Calls Try.prog 15 #[.pointer (some ⟨r, 0, none⟩), .int .i64 vw, ab hh] u fun e w' => ∃ A c, e = .returned (.slice A S.length c) ∧ Rd w' 65 (.slice A S.length c) S.length (Go.Proofs.Ythffkgnbgncfaaa.shs S) ∧ Kept [] u w' := by
  subst hS
  obtain ⟨v, vr, h⟩ := h
  refine (rshares_any h.r (by omega) vw hl).mono ?_
  rintro e w' ⟨v, rfl, o, kk, _⟩
  obtain ⟨A, c, rfl, _⟩ := o.shape
  exact ⟨A, c, rfl, Rd.of_ow o, kk⟩
theorem PlM.count (h : PlM w0 u g r f ts rl) (hf : f ≤ 2) (hi : inR f ts) (vw : Int) {hh : List UInt8} (hl : hh.length = 32) {S : List Vt} (hS : saidv (ofv ts vw) hh = S) :
    Calls Try.prog 11 #[.pointer (some ⟨g, 0, none⟩), .int .i64 vw, ab hh] u fun e w' => e = .returned (.int .i64 (S.length : Nat)) ∧ Kept [] u w' := by
  subst hS
  exact count_any (h.ofs hf hi vw) hl
theorem PlM.full (h : PlM w0 u g r f ts rl) (hf : f ≤ 2) (hi : inR f ts) (vw : Int) {hh : List UInt8} (hl : hh.length = 32) {S : List Vt} (hS : saidv (ofv ts vw) hh = S) {b : Bool} (hb : b = decide (2 * (f : Int) + 1 ≤ (S.length : Nat))) :
    Calls Try.prog 16 #[.pointer (some ⟨g, 0, none⟩), .int .i64 vw, ab hh] u fun e w' => e = .returned (.bool b) ∧ Kept [] u w' := by
  subst hS
  obtain ⟨v, vr, h⟩ := h
  refine (full_any h.t (by omega) hi vw hl).mono ?_
  rintro e w' ⟨rfl, k⟩
  refine ⟨?_, k⟩
  rw [hb]
  congr 2
theorem PlM.said (h : PlM w0 u g r f ts rl) (hf : f ≤ 2) (hi : inR f ts) (fr vw : Int) {p : List UInt8 × Bool} (hp : sd (ofv ts vw) fr = p) :
    Calls Try.prog 17 #[.pointer (some ⟨g, 0, none⟩), .int .i64 fr, .int .i64 vw] u fun e w' => e = .returned (.tuple #[ab p.1, .bool p.2]) ∧ Kept [] u w' := by
  subst hp
  exact said_any (h.ofs hf hi vw) fr
theorem PlM.best (h : PlM w0 u g r f ts rl) (hf : f ≤ 2) (hi : inR f ts) (vw : Int) {p : List UInt8 × Nat} (hp : bst (ofv ts vw) (ofv ts vw).length = p) :
    Calls Try.prog 9 #[.pointer (some ⟨g, 0, none⟩), .int .i64 vw] u fun e w' => e = .returned (.tuple #[ab p.1, .int .i64 (p.2 : Nat)]) ∧ Kept [] u w' := by
  subst hp
  exact best_any (h.ofs hf hi vw)
theorem PlM.rbest (h : PlM w0 u g r f ts rl) (hf : f ≤ 2) (vw : Int) {p : List UInt8 × Nat} (hp : rbst rl vw (3 * f + 1) rl.length = p) :
    Calls Try.prog 18 #[.pointer (some ⟨r, 0, none⟩), .int .i64 vw] u fun e w' => e = .returned (.tuple #[ab p.1, .int .i64 (p.2 : Nat)]) ∧ Kept [] u w' := by
  subst hp
  obtain ⟨v, vr, h⟩ := h
  exact rbest_any h.r (by omega) vw
/-- The event's own variables. -/
structure Ro3 (g9 g10 g11 : Nat) (o : Ev) (u : World) : Prop where
  b9 : Blk u g9 47 o.c.toArray
  b10 : Blk u g10 30 (bv (hv o.h)).toArray
  b11 : Blk u g11 31 (bv (sv o.s)).toArray
theorem Ro3.kept {g9 g10 g11 : Nat} {o : Ev} (h : Ro3 g9 g10 g11 o u) (hk : Kept [] u u') : Ro3 g9 g10 g11 o u' := ⟨h.b9.kept hk (by simp), h.b10.kept hk (by simp), h.b11.kept hk (by simp)⟩
theorem Ro3.kp {g9 g10 g11 : Nat} {o : Ev} (h : Ro3 g9 g10 g11 o u) (hk : KpT u u') : Ro3 g9 g10 g11 o u' :=
  ⟨hk _ _ _ (by decide) (by decide) (by decide) (by decide) h.b9, hk _ _ _ (by decide) (by decide) (by decide) (by decide) h.b10, hk _ _ _ (by decide) (by decide) (by decide) (by decide) h.b11⟩
theorem Ev.f0 {o : Ev} {g : Nat} {bt : TypeId} (h : Blk u g bt o.c.toArray) : u.cell? ⟨g, 0, none⟩ = some (.int .i64 o.fr) := by rw [h.cell]; rfl
theorem Ev.f1 {o : Ev} {g : Nat} {bt : TypeId} (h : Blk u g bt o.c.toArray) : u.cell? ⟨g, 1, none⟩ = some (.int .i64 o.vw) := by rw [h.cell]; rfl
theorem Ev.f2 {o : Ev} {g : Nat} {bt : TypeId} (h : Blk u g bt o.c.toArray) : u.cell? ⟨g, 2, none⟩ = some (.int .u8 o.h.toNat) := by rw [h.cell]; rfl
theorem Ev.f3 {o : Ev} {g : Nat} {bt : TypeId} (h : Blk u g bt o.c.toArray) : u.cell? ⟨g, 3, none⟩ = some (.int .u8 o.s.toNat) := by rw [h.cell]; rfl
theorem Ev.f4 {o : Ev} {g : Nat} {bt : TypeId} (h : Blk u g bt o.c.toArray) : u.cell? ⟨g, 4, none⟩ = some (.bool o.fg) := by rw [h.cell]; rfl
end
end Go.Proofs.Ythffkgnbgncfaaa
