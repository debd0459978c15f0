/-
  Who wants whom is mutual; ring.Mutual and RingMutual: the walks.
-/
import Derived.Test.YtbafhclandendaaLj
namespace Go.Proofs.Ytbafhclandendaa
open Go.J Go.RowKit
set_option linter.unusedVariables false
set_option linter.unusedSimpArgs false
set_option maxRecDepth 4000
theorem count_asc {l m : List IDV} {p q : IDV → Bool} (hl : Asc l) (hm : Asc m) (h : ∀ x, (x ∈ l ∧ p x = true) ↔ (x ∈ m ∧ q x = true)) : l.countP p = m.countP q := by
  rw [List.countP_eq_length_filter, List.countP_eq_length_filter]
  congr 1
  refine asc_ext (hl.sublist List.filter_sublist) (hm.sublist List.filter_sublist) fun x => ?_
  rw [List.mem_filter, List.mem_filter]
  exact h x
theorem valI_ne {a b : IDV} (h : a ≠ b) : valI a ≠ valI b := fun e => h (valI_inj e)
theorem between_iff {a b y : IDV} (hab : a ≠ b) : (y ≠ a ∧ dI a y < dI a b) ↔ (y ≠ b ∧ eI b y < eI b a) := by
  rw [dI_eq, dI_eq, eI_eq, eI_eq]
  have h1 := valI_lt a
  have h2 := valI_lt b
  have h3 := valI_lt y
  have h4 := valI_ne hab
  constructor
  · rintro ⟨h5, h6⟩
    have h7 := valI_ne h5
    exact ⟨fun e => by subst e; omega, by omega⟩
  · rintro ⟨h5, h6⟩
    have h7 := valI_ne h5
    exact ⟨fun e => by subst e; omega, by omega⟩
theorem rI_lI {a b : IDV} (ys : List IDV) (hab : a ≠ b) : rI a (sortI ys a) b = lI b (sortI ys b) a := by
  refine count_asc (sortI_asc _ _) (sortI_asc _ _) fun x => ?_
  rw [sortI_mem, sortI_mem, decide_eq_true_eq, decide_eq_true_eq, and_assoc, and_assoc, between_iff hab]
theorem want_mutual {a b : IDV} {ys : List IDV} {half : Int} (hab : a ≠ b) (ha : a ∈ ys) (hb : b ∈ ys) : b ∈ wantI a ys half ↔ a ∈ wantI b ys half := by
  rw [mem_wantI, mem_wantI, sortI_mem, sortI_mem, rI_lI ys hab, ← rI_lI ys hab.symm]
  constructor
  · rintro ⟨_, h⟩
    exact ⟨⟨ha, hab⟩, h.symm⟩
  · rintro ⟨_, h⟩
    exact ⟨⟨hb, hab.symm⟩, h.symm⟩

end Go.Proofs.Ytbafhclandendaa
