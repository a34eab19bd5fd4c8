/- typex, plain: lists around a type. -/
import Derived.Test.YtlmggfbpdciioaaDoorTxH
namespace Go.Proofs.YtlmggfbpdciioaaDoor
open Go.RowKit PRef Go.Proofs.YtlmggfbpdciioaaDoorW.PrintWords
set_option linter.unusedVariables false
set_option linter.unusedSimpArgs false

/-- A list of x that begins there. -/
def nest1 (f : Int) (x : S38) : S38 := ⟨5, f, ⟨#[]⟩, ⟨#[]⟩, [x]⟩
theorem wraps_fail (da dc : Int) (h : dc ≠ 0) : ∀ ls : List Int, ls.foldr wrapR (z38, 0, da, dc) = (z38, 0, da, dc)
  | [] => rfl
  | f :: ls => by
    rw [List.foldr_cons, wraps_fail da dc h ls]
    exact if_neg h
theorem wraps_ok (x : S38) (n : Int) : ∀ ls : List Int, ls.foldr wrapR (x, n, 0, 0) = (ls.foldr nest1 x, n, 0, 0)
  | [] => rfl
  | f :: ls => by
    rw [List.foldr_cons, wraps_ok x n ls, List.foldr_cons]
    exact if_pos rfl
/-- One list more is open. -/
theorem deep_in {L : List S31} {d : Nat} {a : Int} {ls : List Int} {r : TyR} (h : r = ls.foldr wrapR (deepP L (d + 1) a)) (ho : isP (tokP L a) bOpen = true) (hs : isP (tokP L (a + 1)) bShut = true) :
    r = (ls ++ [(tokP L a).f1]).foldr wrapR (deepP L d (a + 2)) := by
  rw [h, deepP, if_pos ho, if_pos hs, List.foldr_append]
  rfl
theorem deep_leaf_of {L : List S31} {d : Nat} {a : Int} (ho : isP (tokP L a) bOpen = false) : deepP L d a = leafP L a := by
  cases d <;> (unfold deepP; rw [if_neg (by rw [ho]; simp)])
theorem deep_zero_of {L : List S31} {a : Int} (ho : isP (tokP L a) bOpen = true) : deepP L 0 a = failP (tokP L a) 6 := by
  unfold deepP; rw [if_pos ho]
theorem deep_unshut_of {L : List S31} {d : Nat} {a : Int} (ho : isP (tokP L a) bOpen = true) (hs : isP (tokP L (a + 1)) bShut = false) : deepP L (d + 1) a = failP (tokP L (a + 1)) 5 := by
  rw [deepP, if_pos ho, if_neg (by rw [hs]; simp)]
end Go.Proofs.YtlmggfbpdciioaaDoor
