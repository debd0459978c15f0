/-
  Identities that come in; RingNexts: the walk.
-/
import Derived.Test.YtbafhclandendaaLh
import Derived.Test.YtbafhclandendaaRa
namespace Go.Proofs.Ytbafhclandendaa
open Go.J Go.RowKit
set_option linter.unusedVariables false
set_option linter.unusedSimpArgs false
set_option maxRecDepth 4000
def RId : World → List Value → IDV → Prop := fun _ cs a => cs = cI a
theorem dec_id : Decodes Try.prog 23 RId := by
  intro H enc w fuel cs x h hn
  obtain ⟨bs, hl, rfl⟩ := dec_bytes Ty.ar23 Ty.u5 Ty.s5 Ty.s23 H enc w fuel cs x h hn
  obtain ⟨a, ha⟩ := list16 bs hl
  exact ⟨a, by rw [ha]; rfl⟩
theorem fI_cell {xs : List IDV} {i r : Nat} {a : IDV} (h : xs[i]? = some a) (hr : r < 16) : (fI xs)[i * 16 + r]? = (cI a)[r]? := by
  rw [← fI_at h, List.getElem?_take_of_lt hr, List.getElem?_drop]
theorem RSl.rowId {W : World} {by_ : Nat} {s : Sl IDV} {cs : List Value} (h : RSl 16 by_ RId W cs s) : Row W s.v s.xs.length (fI s.xs) := by
  obtain ⟨_, h1, _, h2⟩ := h
  refine ⟨s.a, s.c, rfl, h1, ?_⟩
  rcases h2 with h2 | ⟨b, o, ha, h2⟩
  · left; rw [h2]; rfl
  · right
    refine ⟨b, o, ha, fun j hj => ?_⟩
    rw [fI_length] at hj
    have hi : j / 16 < s.xs.length := by omega
    obtain ⟨cs', hl, hc, hr⟩ := h2 (j / 16) s.xs[j / 16] (List.getElem?_eq_getElem hi)
    have hr' : cs' = cI s.xs[j / 16] := hr
    subst hr'
    have := hc (j % 16) (by omega)
    rw [show o + j = o + j / 16 * 16 + j % 16 by omega, this, ← fI_cell (List.getElem?_eq_getElem hi) (by omega), show j / 16 * 16 + j % 16 = j by omega]
theorem RSl.len {W : World} {sz by_ : Nat} {α : Type} {R : World → List Value → α → Prop} {s : Sl α} {cs : List Value} (h : RSl sz by_ R W cs s) (hb : 0 < by_) : s.xs.length ≤ reachBytes := by
  obtain ⟨_, h1, h2, _⟩ := h
  have := Nat.le_mul_of_pos_right s.c hb
  omega

end Go.Proofs.Ytbafhclandendaa
