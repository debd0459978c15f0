/-
  Entries that come in; TableAsks and TableNil: the walks.
-/
import Derived.Test.YtohldionclgljaaGreatUi
import Derived.Test.YtohldionclgljaaGreatTd
namespace Go.Proofs.YtohldionclgljaaGreat
open Go.J Go.RowKit
set_option linter.unusedVariables false
set_option linter.unusedSimpArgs false
set_option maxRecDepth 4000
theorem fE_cell {xs : List EV} {i r : Nat} {a : EV} (h : xs[i]? = some a) (hr : r < 51) : (fE xs)[i * 51 + r]? = (cE a)[r]? := by
  rw [← fE_at h, List.getElem?_take_of_lt hr, List.getElem?_drop]
theorem rslE {W : World} {by_ : Nat} {s : Sl EV} {cs : List Value} (h : RSl 51 by_ REnt W cs s) : Row W s.v s.xs.length (fE s.xs) := by
  obtain ⟨_, h1, _, h2⟩ := h
  refine ⟨s.a, s.c, rfl, h1, ?_⟩
  rcases h2 with h2 | ⟨b, o, ha, h2⟩
  · left; rw [h2]; rfl
  · right
    refine ⟨b, o, ha, fun j hj => ?_⟩
    rw [fE_length] at hj
    have hi : j / 51 < s.xs.length := by omega
    obtain ⟨cs', hl, hc, hr⟩ := h2 (j / 51) s.xs[j / 51] (List.getElem?_eq_getElem hi)
    have hr' : cs' = cE s.xs[j / 51] := hr.1
    subst hr'
    have := hc (j % 51) (by show j % 51 < 51; omega)
    rw [show o + j = o + j / 51 * 51 + j % 51 by omega, this, ← fE_cell (List.getElem?_eq_getElem hi) (by omega), show j / 51 * 51 + j % 51 = j by omega]
theorem rslE_ok {W : World} {by_ : Nat} {s : Sl EV} {cs : List Value} (h : RSl 51 by_ REnt W cs s) : ∀ x, x ∈ s.xs → okE x := by
  obtain ⟨_, h1, _, h2⟩ := h
  intro x hx
  rcases h2 with h2 | ⟨b, o, ha, h2⟩
  · rw [h2] at hx; cases hx
  · obtain ⟨i, hi, rfl⟩ := List.getElem_of_mem hx
    obtain ⟨_, _, _, hr⟩ := h2 i s.xs[i] (List.getElem?_eq_getElem hi)
    exact hr.2
theorem rslE_len {W : World} {s : Sl EV} {cs : List Value} (h : RSl 51 72 REnt W cs s) : s.xs.length ≤ 1954687338213 := by
  obtain ⟨_, h1, h2, _⟩ := h
  have h3 : reachBytes = 140737488351232 := rfl
  omega

end Go.Proofs.YtohldionclgljaaGreat
