/-
  Arguments: slices of what has fixed cells, as rows. Proved over any program.
-/
import Derived.Test.YtohldionclgljaaGreatRb
import Derived.Test.YtohldionclgljaaGreatMe
namespace Go.J
open Go.ChangeShapes Go.WideShapes Go.ChangeAt Go.RowKit
set_option linter.unusedVariables false
set_option linter.unusedSimpArgs false
theorem rslG {α : Type} {c : α → List Value} {sz by_ : Nat} (hc : ∀ x, (c x).length = sz) (hz : 0 < sz) {R : World → List Value → α → Prop} (hR : ∀ W cs x, R W cs x → cs = c x) {W : World} {s : Sl α} {cs : List Value} (h : RSl sz by_ R W cs s) : Row W s.v s.xs.length (s.xs.flatMap c) := by
  obtain ⟨_, h1, _, h2⟩ := h
  refine ⟨s.a, s.c, rfl, h1, ?_⟩
  rcases h2 with h2 | ⟨b, o, ha, h2⟩
  · left; rw [h2]; rfl
  · right
    refine ⟨b, o, ha, fun j hj => ?_⟩
    rw [fG_length hc] at hj
    have hi : j / sz < s.xs.length := Nat.div_lt_of_lt_mul (by rw [Nat.mul_comm]; exact hj)
    obtain ⟨cs', hl, hcc, hr⟩ := h2 (j / sz) s.xs[j / sz] (List.getElem?_eq_getElem hi)
    have hr' : cs' = c s.xs[j / sz] := hR _ _ _ hr
    subst hr'
    have hm := Nat.mod_lt j hz
    have := hcc (j % sz) (by rw [hc]; exact hm)
    have hdm : j / sz * sz + j % sz = j := by rw [Nat.mul_comm]; exact Nat.div_add_mod j sz
    rw [show o + j = o + j / sz * sz + j % sz by omega, this, ← fG_cell hc (List.getElem?_eq_getElem hi) hm, hdm]
theorem rslG_all {α : Type} {sz by_ : Nat} {R : World → List Value → α → Prop} {p : α → Prop} (hR : ∀ W cs x, R W cs x → p x) {W : World} {s : Sl α} {cs : List Value} (h : RSl sz by_ R W cs s) : ∀ x, x ∈ s.xs → p x := by
  obtain ⟨_, h1, _, h2⟩ := h
  intro x hx
  rcases h2 with h2 | ⟨b, o, ha, h2⟩
  · rw [h2] at hx; cases hx
  · obtain ⟨i, hi, rfl⟩ := List.getElem_of_mem hx
    obtain ⟨_, _, _, hr⟩ := h2 i s.xs[i] (List.getElem?_eq_getElem hi)
    exact hR _ _ _ hr
end Go.J
