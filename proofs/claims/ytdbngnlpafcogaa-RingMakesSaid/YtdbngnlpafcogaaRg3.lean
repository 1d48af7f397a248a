/-
  The ring: what a ring is in memory; Size, Open.
-/
import Derived.Test.YtdbngnlpafcogaaRg2
import Derived.Test.YtdbngnlpafcogaaLit
import Derived.Test.YtdbngnlpafcogaaFam
import Derived.Maps.Own
import Derived.Maps.OwnOps
import Derived.Maps.OwnSet
import Derived.Maps.Views
import Derived.StringKeys
namespace Go.Proofs.Ytdbngnlpafcogaa
open Go.RowKit Go.Mem Go.Txt

abbrev DU := DataW Unit
abbrev oM (w : World) (b n : Nat) (D : DU) : Prop := w.ownsMap Try.prog 9 (plainElem Try.prog 3) b n D
theorem sk : Maps.Keyed Try.prog 9 := Maps.string_keyed Try.underlying9
/-- What a lookup says. -/
def atM (D : DU) (s : List UInt8) : DU := D.atKey (.string s) (.lit (.int .i64 0))
/-- A lookup's number says which signatures are right. -/
def KeyP (keys : List (List UInt8)) (s : List UInt8) (c : Int) : Prop :=
  ∀ (i : Nat) (tag : UInt8) (sig body : List UInt8), s = UInt8.ofNat i :: tag :: (sig ++ body) → i < keys.length → sig.length = 64 → (c = 1 ↔ okV (keys.getD i []) sig (whatB tag body) = true)
def SeenP (keys : List (List UInt8)) (D : DU) : Prop := ∀ s, atM D s = .lit (.int .i64 0) ∨ ∃ c : Int, (c = 1 ∨ c = 2) ∧ atM D s = .lit (.int .i64 c) ∧ KeyP keys s c
/-- A ring in memory. -/
structure Rg (w : World) (r : Nat) (kv : Value) (keys : List (List UInt8)) (b : Nat) (D : DU) : Prop where
  blk : Blk w r 93 #[kv, .map (some b)]
  rows : Rd w 32 kv keys.length (keys.flatMap bv)
  len : ∀ k ∈ keys, k.length = 32
  few : keys.length ≤ 7
  map : ∃ n, oM w b n D
  seen : SeenP keys D
  isMap : Maps.IsMap D
theorem Blk.ne_map {w : World} {g b n : Nat} {t : TypeId} {cs : Array Value} {D : DU} (h : Blk w g t cs) (m : oM w b n D) : g ≠ b := by
  rintro rfl
  obtain ⟨es, clock, hb, _⟩ := m
  unfold Blk at h
  rw [h] at hb
  cases hb
theorem Rd.ne_map {w : World} {b n s m : Nat} {v : Value} {xs : List Value} {D : DU} (h : Rd w s v m xs) (mm : oM w b n D) (h0 : 0 < xs.length) (hm : 0 < m) : ∀ k, v.ownBlock = some k → k ≠ b := by
  rintro k hk rfl
  obtain ⟨b2, o, c, rfl, _, hx⟩ := h.at_ hm
  obtain rfl : b2 = k := by simpa [Value.ownBlock] using hk
  obtain ⟨es, clock, hb, _⟩ := mm
  have := hx 0 xs[0] (by simp [h0])
  simp [World.cell?, hb] at this
theorem oM.kept {w w' : World} {b n : Nat} {D : DU} {S : List Nat} (m : oM w b n D) (k : Kept S w w') (hb : b ∉ S) : oM w' b n D := by
  have hlt := World.ownsMap.lt m
  obtain ⟨es, clock, h, F, hs, hD⟩ := m
  exact ⟨es, clock, (k.block b hlt hb).trans h, F, hs, hD⟩
theorem flat_len {keys : List (List UInt8)} (h : ∀ k ∈ keys, k.length = 32) : (keys.flatMap bv).length = keys.length * 32 := by
  induction keys with
  | nil => rfl
  | cons a l ih =>
    rw [List.flatMap_cons, List.length_append, ih (fun k hk => h k (List.mem_cons_of_mem _ hk)), List.length_cons]
    have := h a (by simp)
    simp [this]; omega
theorem Rg.kept {w w' : World} {r b : Nat} {kv : Value} {keys : List (List UInt8)} {D : DU} (h : Rg w r kv keys b D) (k : Kept [] w w') : Rg w' r kv keys b D :=
  ⟨h.blk.kept k (by simp), h.rows.kept0 k, h.len, h.few, let ⟨n, hn⟩ := h.map; ⟨n, hn.kept k (by simp)⟩, h.seen, h.isMap⟩
/-- A ring whose map was turned. -/
theorem Rg.turned {w w' : World} {r b n : Nat} {kv : Value} {keys : List (List UInt8)} {D D' : DU} (h : Rg w r kv keys b D) (k : Kept [b] w w') (m : oM w' b n D') (s : SeenP keys D') (hm : Maps.IsMap D') : Rg w' r kv keys b D' := by
  obtain ⟨n0, m0⟩ := h.map
  refine ⟨h.blk.kept k (by simpa using Blk.ne_map h.blk m0), h.rows.kept k fun hn g hg => ?_, h.len, h.few, ⟨n, m⟩, s, hm⟩
  simpa using Rd.ne_map h.rows m0 (by rw [flat_len h.len]; omega) hn g hg
theorem oM.tight {w : World} {b n : Nat} {D : DU} (m : oM w b n D) : oM w b (Maps.size D) D := by
  obtain ⟨es, clock, hb, F, _, hD⟩ := m
  refine ⟨es, clock, hb, F, ?_, hD⟩
  subst hD
  simp [Maps.size, length_sorted]
theorem key_inj {i i' : Nat} {tag tag' : UInt8} {sig sig' body body' : List UInt8} (h : UInt8.ofNat i :: tag :: (sig ++ body) = UInt8.ofNat i' :: tag' :: (sig' ++ body')) (hi : i < 256) (hi' : i' < 256) (hs : sig.length = 64) (hs' : sig'.length = 64) : i = i' ∧ tag = tag' ∧ sig = sig' ∧ body = body' := by
  injection h with h1 h2
  injection h2 with h2 h3
  have h4 := List.append_inj h3 (by rw [hs, hs'])
  have h5 := congrArg UInt8.toNat h1
  rw [UInt8.toNat_ofNat_of_lt' hi, UInt8.toNat_ofNat_of_lt' hi'] at h5
  exact ⟨h5, h2, h4.1, h4.2⟩
/-- A number put in for what was verified. -/
theorem SeenP.put {keys : List (List UInt8)} {D : DU} (h : SeenP keys D) (hm : Maps.IsMap D) (hf : keys.length ≤ 7) {i : Nat} {tag : UInt8} {sig body : List UInt8} (hi : i < keys.length) (hs : sig.length = 64) {c : Int} (hc : c = 1 ∨ c = 2) (hok : c = 1 ↔ okV (keys.getD i []) sig (whatB tag body) = true) :
    SeenP keys (D.put (.string (UInt8.ofNat i :: tag :: (sig ++ body))) (.lit (.int .i64 c))) := by
  intro s
  by_cases e : s = UInt8.ofNat i :: tag :: (sig ++ body)
  · subst e
    refine .inr ⟨c, hc, Maps.atKey_put_same hm (show WideAt.IsKeyLit (.string _) from trivial) _ _, ?_⟩
    intro i' tag' sig' body' e hi' hs'
    obtain ⟨rfl, rfl, rfl, rfl⟩ := key_inj e (by omega) (by omega) hs hs'
    exact hok
  · have := Maps.atKey_put_other (D := D) (k := .string (UInt8.ofNat i :: tag :: (sig ++ body))) (k' := .string s) (fun h => e (by injection h)) (.lit (.int .i64 c)) (.lit (.int .i64 0))
    unfold atM
    rw [this]
    exact h s
set_option maxRecDepth 100000 in
set_option maxHeartbeats 3200000 in
theorem size_any {w : World} {r b : Nat} {kv : Value} {keys : List (List UInt8)} {D : DU} (h : Rg w r kv keys b D) :
    Calls Try.prog 19 #[.pointer (some ⟨r, 0, none⟩)] w fun e w' => e = .returned (.int .i64 (keys.length : Int)) ∧ w' = w := by
  obtain ⟨KA, kc, e0, _⟩ := h.rows
  subst e0
  have q0 : w.cell? ⟨r, 0, none⟩ = some (.slice KA keys.length kc) := by rw [h.blk.cell]; rfl
  have H := Lib.hid h
  clear h
  go_enter Try.func19, Try.ntmps19
  go_wp2_with fail
  go_ret
  exact ⟨rfl, rfl⟩
end Go.Proofs.Ytdbngnlpafcogaa
