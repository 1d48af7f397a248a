/-
  The log: what must be answered ahead of everything else.
-/
import Derived.Test.YtjdfnhfankcodaaWl7
namespace Go.Proofs.Ytjdfnhfankcodaa
open Go.RowKit Go.Mem Go.Txt

/-- A disk, made since w0. -/
structure Dw (w0 w : World) (b size safe : Nat) (dv : Value) (xs : List UInt8) : Prop where
  disk : Dk.DiskIs w b size safe dv xs
  lb : w0.heap.size ≤ b
  ld : ∀ k, dv.ownBlock = some k → w0.heap.size ≤ k
  k : Kept [] w0 w
theorem Dw.kept0 {w0 w w' : World} {b size safe : Nat} {dv : Value} {xs : List UInt8} (h : Dw w0 w b size safe dv xs) (hk : Kept [] w w') : Dw w0 w' b size safe dv xs := ⟨h.disk.kept0 hk, h.lb, h.ld, h.k.then0 hk⟩
theorem Wl.dw {w0 w : World} {b l size safe : Nat} {dv rv : Value} {rs : List (Value × List UInt8)} {xs : List UInt8} {dn : Bool} (h : Wl w0 w b l size safe dv rv rs xs dn) : Dw w0 w b size safe dv xs := ⟨h.disk, h.lb, h.ld, h.k⟩
theorem dnew_any (n : Nat) (w : World) (h : (n : Int) ≤ 9223372036854775807) :
    Calls Try.prog 8 #[.int .i64 n] w fun e w' => ∃ b, e = .returned (.tuple #[.pointer (some ⟨b, 0, none⟩), .int .i64 0]) ∧ Dw w w' b n 0 (.slice none 0 0) [] := by
  refine (Dk.new_pos n w h).mono ?_
  rintro e w' ⟨rfl, rfl⟩
  exact ⟨_, rfl, Dk.new_is w n, Nat.le_refl _, by simp [Value.ownBlock], (Kept.refl [] w).alloc _⟩
theorem dcut_any {w0 w : World} {b size safe n : Nat} {dv : Value} {xs : List UInt8} (h : Dw w0 w b size safe dv xs) (hn : n ≤ xs.length) :
    Calls Try.prog 18 #[.pointer (some ⟨b, 0, none⟩), .int .i64 n] w fun e w' => e = .returned (.int .i64 0) ∧ ∃ dv', Dw w0 w' b size (min safe n) dv' (xs.take n) ∧ Kept [b] w w' := by
  refine (Dk.cut_ok _ _ _ n _ _ _ h.disk hn).mono ?_
  rintro e w' ⟨rfl, v', h1, h2, h3⟩
  exact ⟨rfl, v', ⟨h1, h.lb, by rw [h3]; exact h.ld, Kept.fresh h.k h2 (by simpa using h.lb)⟩, h2⟩
theorem dlen_any {w0 w : World} {b size safe : Nat} {dv : Value} {xs : List UInt8} (h : Dw w0 w b size safe dv xs) :
    Calls Try.prog 17 #[.pointer (some ⟨b, 0, none⟩)] w fun e w' => e = .returned (.int .i64 xs.length) ∧ w = w' := Dk.len_any _ _ _ _ _ _ h.disk
theorem wopen_any {w0 w : World} {b size safe : Nat} {dv : Value} {xs : List UInt8} (h : Dw w0 w b size safe dv xs) (hx : xs.length ≤ 1000000000000) :
    Calls Try.prog 10 #[.pointer (some ⟨b, 0, none⟩)] w fun e w' => ∃ l rv rs dv', e = .returned (.tuple #[.pointer (some ⟨l, 0, none⟩), .int .i64 0]) ∧ rs.map (·.2) = says xs ∧
      Wl w0 w' b l size (rsz (says xs)) dv' rv rs (xs.take (rsz (says xs))) false ∧ Kept [b] w w' ∧ w.heap.size ≤ l := by
  refine (open_any b size safe dv xs w h.disk hx).mono ?_
  rintro e w' ⟨l, rv, rs, dv', rfl, h1, h2, h3, h4, h5, h6⟩
  have hsz := h.k.size
  refine ⟨l, rv, rs, dv', rfl, h1, ⟨h4, h2, fun x hx k hk e => ?_, h.lb, by rw [h5]; exact h.ld, ⟨Nat.le_trans hsz h3.ll, fun k hk => Nat.le_trans hsz (h3.lr k hk), fun x hx k hk => Nat.le_trans hsz (h3.lx x hx k hk)⟩, Kept.fresh h.k h6 (by simpa using h.lb)⟩, h6, h3.ll⟩
  rw [h5] at e
  have a1 := h3.lx x hx k hk
  have a2 := (Ow.of_own h.disk.own).lt e
  omega
/-- Rows written, as a log's words say it. -/
theorem wwrite_any {w0 w : World} {b l size safe : Nat} {dv rv pv : Value} {rs bs : List (Value × List UInt8)} {xs : List UInt8} (hW : Wl w0 w b l size safe dv rv rs xs false) (hp : Dk.Parts w (wlS b l dv rv) pv bs)
    (hsz : size ≤ 1000000000000) (hn : bs.length ≤ 1000000000) (hrn : rs.length ≤ 1000000000) (hbig : ∀ x ∈ bs, x.2.length ≤ 1048576) (hfit : xs.length + rsz (bs.map (·.2)) ≤ size) :
    Calls Try.prog 16 #[.pointer (some ⟨l, 0, none⟩), pv] w fun e w' => e = .returned (.int .i64 0) ∧ ∃ dv' rv' rs', rs'.map (·.2) = rs.map (·.2) ++ bs.map (·.2) ∧
      Wl w0 w' b l size (xs ++ encs rs.length (bs.map (·.2))).length dv' rv' rs' (xs ++ encs rs.length (bs.map (·.2))) false ∧ Kept (wlS b l dv rv) w w' := by
  refine (write_ok w0 w b l size safe dv rv pv rs bs xs hW hp hsz hn hrn hbig hfit).mono ?_
  rintro e w' ⟨rfl, dv', rv', rs2, h1, h2, h3⟩
  exact ⟨rfl, dv', rv', rs ++ rs2, by rw [List.map_append, h1], h2.W, h2.k⟩
/-- A list of one. -/
theorem parts_one {w w0 : World} {g : Nat} {t : TypeId} {S : List Nat} {v : Value} {x : List UInt8} (hb : Blk w g t #[v]) (hr : Rd w 1 v x.length (bv x)) (hS : ∀ k ∈ S, k < w0.heap.size) (hg : w0.heap.size ≤ g) (hv : 0 < x.length → ∀ k, v.ownBlock = some k → k ∉ S) : Dk.Parts w S (.slice (some ⟨g, 0, none⟩) 1 1) [(v, x)] := by
  refine ⟨⟨_, _, rfl, rfl, Nat.le_refl _, fun _ => ⟨g, 0, rfl, fun j u hu => ?_⟩⟩, fun _ k hk hm => ?_, fun y hy => ?_⟩
  · rw [hb.cell, Nat.zero_add]; simpa using hu
  · have : k = g := by simpa [Value.ownBlock] using hk.symm
    subst this
    have := hS _ hm
    omega
  · obtain rfl := List.mem_singleton.1 hy
    exact ⟨hr, hv⟩
@[go_sem] theorem const22 (w : World) (C : Array Value) (m n c : Nat) (hm : m = w.heap.size) :
    (convert 22 22 (.slice (some ⟨m, 0, none⟩) n c)).run Try.prog (w.alloc (.cells C 5)) = .ok (.slice (some ⟨m, 0, none⟩) n c) (w.alloc (.cells C 5 (C.size, C.size + 1))) :=
  run_const Try.underlying22 Try.underlying5 w C m n c hm

/-- One part in a new row, the part itself in the row before it. -/
theorem parts_lit (w : World) (S : List Nat) (cs : Array Value) (fr : Nat × Nat) (xs : List UInt8) (g n : Nat) (hg : g = w.heap.size) (hn : n = xs.length) (hx : cs.toList = bv xs) (hS : ∀ k ∈ S, k < w.heap.size) :
    Dk.Parts ((w.alloc (.cells cs 5 fr)).alloc (.cells #[.slice (some ⟨g, 0, none⟩) n n] 22)) S (.slice (some ⟨g + 1, 0, none⟩) 1 1) [(.slice (some ⟨g, 0, none⟩) n n, xs)] := by
  subst hg
  subst hn
  refine ⟨Rd.alloc_at (by simp) rfl (by simp) (by simp), fun _ k hk hm => ?_, fun x hx' => ?_⟩
  · simp [Value.ownBlock] at hk; have := hS k hm; omega
  · simp at hx'
    subst hx'
    refine ⟨(Rd.alloc_at rfl hx (by simp) (by simp)).alloc _, fun _ k hk hm => ?_⟩
    simp [Value.ownBlock] at hk; have := hS k hm; omega

theorem dnew_lit (n : Nat) (z : Int) (hz : (n : Int) = z) (h : z ≤ 9223372036854775807) (w : World) :
    Calls Try.prog 8 #[.int .i64 z] w fun e w' => ∃ b, e = .returned (.tuple #[.pointer (some ⟨b, 0, none⟩), .int .i64 0]) ∧ Dw w w' b n 0 (.slice none 0 0) [] := by
  subst hz
  exact dnew_any n w h
theorem dcut_lit {w0 w : World} {b size safe : Nat} {dv : Value} {xs : List UInt8} (n : Nat) (z : Int) (hz : (n : Int) = z) (h : Dw w0 w b size safe dv xs) (hn : n ≤ xs.length) :
    Calls Try.prog 18 #[.pointer (some ⟨b, 0, none⟩), .int .i64 z] w fun e w' => e = .returned (.int .i64 0) ∧ ∃ dv', Dw w0 w' b size (min safe n) dv' (xs.take n) ∧ Kept [b] w w' := by
  subst hz
  exact dcut_any h hn
theorem says_nil : says [] = [] := by
  have := says_encs [] (by simp)
  simpa [encs] using this
end Go.Proofs.Ytjdfnhfankcodaa
