/-
  Batches of updates: what the program reads bytes as (Parse).
-/
import Derived.Test.YtdbngnlpafcogaaGreatZcJ05
set_option maxRecDepth 100000
namespace Go.Proofs.YtdbngnlpafcogaaGreat
open Go.RowKit Go.Mem Go.Txt
def okS(s:St):Prop:=s.1=0∨s.1=10∨s.1=12
theorem b1w{n:Nat}{s:St}(h:okS s):okS (a2z n s).2:=by
 unfold a2z;split
 ·split
  ·exact .inl rfl
  ·exact .inr (.inl rfl)
 ·exact h
theorem c0l{n:Nat}{s:St}(h:okS s):okS (a8q n s).2:=b1w h
theorem b5z{s:St}(h:okS s):okS (a9r s).2:=b1w h
theorem b2y{m:Nat}{s:St}(h:okS s):okS (a4l m s).2:=by
 unfold a4l;split
 ·exact .inr (.inr rfl)
 ·exact b5z h
theorem b8x{s:St}(h:okS s):(s.1=0∧a8t s=0)∨(s.1=0∧a8t s=11)∨(s.1≠0∧a8t s=10)∨(s.1≠0∧a8t s=12):=by
 unfold a8t;rcases h with h | h | h
 ·rw [if_pos h];by_cases hl:0 < s.2.length
  ·rw [if_pos hl];exact .inr (.inl ⟨h,rfl⟩)
  ·rw [if_neg hl];exact .inl ⟨h,rfl⟩
 ·rw [if_neg (by omega),h];exact .inr (.inr (.inl ⟨by decide,rfl⟩))
 ·rw [if_neg (by omega),h];exact .inr (.inr (.inr ⟨by decide,rfl⟩))
end Go.Proofs.YtdbngnlpafcogaaGreat
