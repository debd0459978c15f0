/-
  ring.Next: contract.
-/
import Derived.Test.YtbafhclandendaaKl
namespace Go.Proofs.Ytbafhclandendaa
open Go.J Go.RowKit
set_option linter.unusedVariables false
set_option linter.unusedSimpArgs false
set_option maxRecDepth 4000
/-- the first one clockwise -/
def IsNext (me : IDV) (xs : List IDV) (m : IDV) : Prop := (m ∈ xs ∧ m ≠ me) ∧ ∀ y, y ∈ xs → y ≠ me → dI me m ≤ dI me y
theorem IsNext.uniq {me : IDV} {xs : List IDV} {m m' : IDV} (h : IsNext me xs m) (h' : IsNext me xs m') : m = m' :=
  dI_inj (Nat.le_antisymm (h.2 m' h'.1.1 h'.1.2) (h'.2 m h.1.1 h.1.2))
open Classical in
noncomputable def nextO (me : IDV) (xs : List IDV) : Option IDV := if h : ∃ m, IsNext me xs m then some h.choose else none
theorem nextO_of {me : IDV} {xs : List IDV} {m : IDV} (h : IsNext me xs m) : nextO me xs = some m := by
  unfold nextO
  rw [dif_pos ⟨m, h⟩]
  congr 1
  exact (Exists.choose_spec ⟨m, h⟩ : IsNext me xs _).uniq h
theorem nextO_none {me : IDV} {xs : List IDV} (h : ∀ x, x ∈ xs → x = me) : nextO me xs = none := by
  unfold nextO
  rw [dif_neg]
  rintro ⟨m, hm⟩
  exact hm.1.2 (h m hm.1.1)
theorem nextO_some {me : IDV} {xs : List IDV} {m : IDV} (h : nextO me xs = some m) : IsNext me xs m := by
  unfold nextO at h
  split at h
  · rename_i hx
    cases h
    exact hx.choose_spec
  · cases h
theorem IsNext.of_sort {me : IDV} {xs : List IDV} {m : IDV} (h : m ∈ sortI xs me ∧ ∀ y, y ∈ sortI xs me → dI me m ≤ dI me y) : IsNext me xs m :=
  ⟨(sortI_mem xs me m).1 h.1, fun y hy hn => h.2 y ((sortI_mem xs me y).2 ⟨hy, hn⟩)⟩
theorem sortI_nil {me : IDV} {xs : List IDV} (h : (sortI xs me).length = 0) : nextO me xs = none := by
  refine nextO_none fun x hx => ?_
  have h0 := List.eq_nil_of_length_eq_zero h
  apply Classical.byContradiction
  intro hne
  have := (sortI_mem xs me x).2 ⟨hx, hne⟩
  rw [h0] at this
  cases this

end Go.Proofs.Ytbafhclandendaa
