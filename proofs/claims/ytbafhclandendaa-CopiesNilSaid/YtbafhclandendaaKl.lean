/-
  MinFunc as ring.Next calls it; ring.Next: contracts.
-/
import Derived.Test.YtbafhclandendaaKk
namespace Go.Proofs.Ytbafhclandendaa
open Go.J Go.RowKit
set_option linter.unusedVariables false
set_option linter.unusedSimpArgs false
set_option maxRecDepth 4000
theorem cfN_neg {f : IDV → Nat} {a b : IDV} : cfN f a b < 0 ↔ f a < f b := by
  unfold cfN
  split
  · simp [*]
  · split <;> simp [*]
structure MS where
  i : Nat
  m : IDV
structure MinInv (f : IDV → Nat) (xs : List IDV) (s : MS) : Prop where
  h1 : 1 ≤ s.i
  hi : s.i ≤ xs.length
  hm : s.m ∈ xs
  le : ∀ j y, j < s.i → xs[j]? = some y → f s.m ≤ f y
theorem MinInv.done {f : IDV → Nat} {xs : List IDV} {i : Nat} {m : IDV} (h : MinInv f xs ⟨i, m⟩) (hi : i = xs.length) : m ∈ xs ∧ ∀ y, y ∈ xs → f m ≤ f y := by
  refine ⟨h.hm, fun y hy => ?_⟩
  obtain ⟨j, hj, rfl⟩ := List.getElem_of_mem hy
  exact h.le j _ (by simp only; omega) (List.getElem?_eq_getElem hj)
theorem MinInv.start {f : IDV → Nat} {xs : List IDV} {m : IDV} (h : xs[0]? = some m) : MinInv f xs ⟨1, m⟩ := by
  have hl := (List.getElem?_eq_some_iff.1 h).1
  refine ⟨Nat.le_refl _, hl, ?_, fun j y hj hy => ?_⟩
  · exact List.mem_of_getElem? h
  · have : j = 0 := by simp only at hj; omega
    subst this
    rw [h] at hy
    cases hy
    exact Nat.le_refl _
theorem MinInv.next {f : IDV → Nat} {xs : List IDV} {i : Nat} {m m' : IDV} (h : MinInv f xs ⟨i, m⟩) (hlt : i < xs.length) (hm : m' = m ∨ m' = xs[i]) (h1 : f m' ≤ f m) (h2 : f m' ≤ f xs[i]) : MinInv f xs ⟨i + 1, m'⟩ := by
  refine ⟨by simp only; omega, hlt, ?_, fun j y hj hy => ?_⟩
  · rcases hm with rfl | rfl
    · exact h.hm
    · exact List.getElem_mem hlt
  · rcases Nat.lt_or_ge j i with hji | hji
    · exact Nat.le_trans h1 (h.le j y hji hy)
    · have : j = i := by simp only at hj; omega
      subst this
      rw [List.getElem?_eq_getElem hlt] at hy
      cases hy
      exact h2

end Go.Proofs.Ytbafhclandendaa
