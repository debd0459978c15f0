/-
  The document's Next: contract.
-/
import Derived.Test.YtbafhclandendaaLe
namespace Go.Proofs.Ytbafhclandendaa
open Go.J Go.RowKit
set_option linter.unusedVariables false
set_option linter.unusedSimpArgs false
set_option maxRecDepth 4000
structure NK where
  k : Nat
  ok : Bool
theorem min_exists {f : IDV → Nat} : ∀ {L : List IDV}, L ≠ [] → ∃ m, m ∈ L ∧ ∀ y, y ∈ L → f m ≤ f y
  | [], h => absurd rfl h
  | [x], _ => ⟨x, .head _, fun y hy => by simp only [List.mem_singleton] at hy; subst hy; exact Nat.le_refl _⟩
  | x :: y :: L, _ => by
    obtain ⟨m, h1, h2⟩ := min_exists (f := f) (L := y :: L) (by simp)
    rcases Nat.le_total (f x) (f m) with h | h
    · exact ⟨x, .head _, fun z hz => by
        rcases List.mem_cons.1 hz with rfl | hz
        · exact Nat.le_refl _
        · exact Nat.le_trans h (h2 z hz)⟩
    · exact ⟨m, .tail _ h1, fun z hz => by
        rcases List.mem_cons.1 hz with rfl | hz
        · exact h
        · exact h2 z hz⟩
theorem no_min {f : IDV → Nat} {L : List IDV} (h : ∀ j z, j < L.length → L[j]? = some z → ∃ y, y ∈ L ∧ f y < f z) : L = [] := by
  apply Classical.byContradiction
  intro hne
  obtain ⟨m, h1, h2⟩ := min_exists (f := f) hne
  obtain ⟨j, hj, rfl⟩ := List.getElem_of_mem h1
  obtain ⟨y, h3, h4⟩ := h j _ hj (List.getElem?_eq_getElem hj)
  have := h2 y h3
  omega
theorem not_all {f : IDV → Nat} {L : List IDV} {x : IDV} {k : Nat} (h : ¬ ∀ j y, j < k → L[j]? = some y → f x ≤ f y) : ∃ y, y ∈ L ∧ f y < f x := by
  apply Classical.byContradiction
  intro hne
  refine h fun j y hj hy => ?_
  rcases Nat.lt_or_ge (f y) (f x) with h1 | h1
  · exact absurd ⟨y, List.mem_of_getElem? hy, h1⟩ hne
  · exact h1

end Go.Proofs.Ytbafhclandendaa
