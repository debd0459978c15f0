/-
  Arguments: arrays of what can be decoded. Proved over any program.
-/
import Derived.Test.YtohldionclgljaaGreatRa
namespace Go.J
open Go.ChangeShapes Go.WideShapes Go.ChangeAt Go.RowKit
set_option linter.unusedVariables false
set_option linter.unusedSimpArgs false
def RArr {α : Type} (k sz : Nat) (R : World → List Value → α → Prop) : World → List Value → List α → Prop := fun w cs xs =>
  cs.length = k * sz ∧ xs.length = k ∧ ∀ i x, xs[i]? = some x → R w ((cs.drop (i * sz)).take sz) x
theorem dec_arr {P : Program} {t e k sz : Nat} {α : Type} {R : World → List Value → α → Prop} (ha : arrT P t = some (k, e)) (hs : sizeT P e = some sz) (hk : sizeT P t = some (k * sz)) (D : Decodes P e R) : Decodes P t (RArr k sz R) := by
  intro H enc w fuel cs x h hn
  have hua := arr_u ha
  have hcz : P.cellsOf e = sz := by
    unfold Program.cellsOf; unfold sizeT at hs; rw [hs]; rfl
  obtain ⟨xs, m, _, hx0, hl, hxl, hx⟩ := DataW.trod_array hua h
  have hlk : cs.length = k * sz := by
    rw [hl]
    unfold Program.cellsOf; unfold sizeT at hk; rw [hk]; rfl
  obtain ⟨ys, hyl, hy⟩ := list_of (p := fun i (y : α) => R w ((cs.drop (i * sz)).take sz) y) k (fun i hi => by
    have h1 := hx i hi
    rw [hcz, List.getElem?_eq_getElem (by omega)] at h1
    refine D H enc w m _ _ h1 (fun n hn' => hn n ?_)
    rw [hx0]
    simp only [DataW.weights, hua]
    exact weights_all (List.mem_map.2 ⟨_, List.getElem_mem _, rfl⟩) n hn')
  exact ⟨ys, hlk, hyl, hy⟩
/-- an array of two -/
theorem RArr.two {α : Type} {sz : Nat} {R : World → List Value → α → Prop} {w : World} {cs : List Value} {xs : List α} (h : RArr 2 sz R w cs xs) : ∃ a b c1 c2, cs = c1 ++ c2 ∧ R w c1 a ∧ R w c2 b := by
  obtain ⟨h1, h2, h3⟩ := h
  match xs, h2 with
  | [a, b], _ =>
    refine ⟨a, b, cs.take sz, cs.drop sz, (List.take_append_drop _ _).symm, ?_, ?_⟩
    · have := h3 0 a rfl
      simpa using this
    · have := h3 1 b rfl
      rw [Nat.one_mul, List.take_of_length_le (by rw [List.length_drop]; omega)] at this
      exact this
end Go.J
