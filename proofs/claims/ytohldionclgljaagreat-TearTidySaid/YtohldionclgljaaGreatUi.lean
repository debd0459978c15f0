/-
  The document's Remove; where a key stands: contracts.
-/
import Derived.Test.YtohldionclgljaaGreatUg
namespace Go.Proofs.YtohldionclgljaaGreat
open Go.J Go.RowKit
set_option linter.unusedVariables false
set_option linter.unusedSimpArgs false
set_option maxRecDepth 4000
/-- another key -/
def neK (p : PV) (y : EV) : Bool := decide (y.p ≠ p)
theorem neK_iff {p : PV} {y : EV} : neK p y = true ↔ y.p ≠ p := by unfold neK; rw [decide_eq_true_eq]
def placeE (xs : List EV) (p : PV) : Int := match xs.findIdx? (fun x => decide (x.p = p)) with
  | some i => (i : Int)
  | none => -1
theorem placeE_at {xs : List EV} {p : PV} {i : Nat} {x : EV} (h : xs[i]? = some x) (hp : x.p = p) (hb : ∀ j y, j < i → xs[j]? = some y → y.p ≠ p) : placeE xs p = i := by
  unfold placeE
  have : xs.findIdx? (fun x => decide (x.p = p)) = some i := by
    have hi := (List.getElem?_eq_some_iff.1 h).1
    rw [List.findIdx?_eq_some_iff_getElem]
    refine ⟨hi, ?_, fun j hj => ?_⟩
    · rw [List.getElem?_eq_getElem hi] at h
      cases h
      simpa using hp
    · have := hb j xs[j] hj (List.getElem?_eq_getElem (by omega))
      simpa using this
  rw [this]
theorem placeE_no {xs : List EV} {p : PV} (hb : ∀ j y, j < xs.length → xs[j]? = some y → y.p ≠ p) : placeE xs p = -1 := by
  unfold placeE
  have : xs.findIdx? (fun x => decide (x.p = p)) = none := by
    rw [List.findIdx?_eq_none_iff]
    intro x hx
    obtain ⟨j, hj, rfl⟩ := List.getElem_of_mem hx
    have := hb j xs[j] hj (List.getElem?_eq_getElem hj)
    simpa using this
  rw [this]

end Go.Proofs.YtohldionclgljaaGreat
/-
  Layer 12's example; TableAsks and TableNil: the walks.
-/
namespace Go.Proofs.YtohldionclgljaaGreat
open Go.J Go.RowKit
set_option linter.unusedVariables false
set_option linter.unusedSimpArgs false
set_option maxRecDepth 4000
def idB : IDV := fun i => if i = 0 then 1 else 0
theorem zI_idB : zI ≠ idB := fun e => by have := congrFun e 0; simp [zI, idB] at this
def fx1 : EV := ⟨⟨zI, 1⟩, zI, idB, -1, 2⟩
def fx2 : EV := ⟨⟨zI, 2⟩, zI, idB, -1, 2⟩
theorem okN1 {n : Int} (h0 : -9223372036854775808 ≤ n) (h1 : n < 9223372036854775808) : okN n := by
  have e1 : IntKind.i64.min = -9223372036854775808 := by decide
  have e2 : IntKind.i64.max = 9223372036854775807 := by decide
  simp only [okN, Lit.wf, e1, e2, Bool.and_eq_true, decide_eq_true_eq]
  omega
theorem ok_fx1 : okE fx1 := ⟨okN1 (by decide) (by decide), okN1 (by decide) (by decide), okN1 (by decide) (by decide)⟩
theorem ok_fx2 : okE fx2 := ⟨okN1 (by decide) (by decide), okN1 (by decide) (by decide), okN1 (by decide) (by decide)⟩
theorem right_fx1 : rightP fx1 := ⟨zI_idB, by decide, by decide, by decide⟩
theorem right_fx2 : rightP fx2 := ⟨zI_idB, by decide, by decide, by decide⟩
theorem fx_ne : fx1.p ≠ fx2.p := fun e => by have := congrArg PV.n e; simp [fx1, fx2] at this
theorem tadd_fx1 : tadd [] 1 fx1 = (0, [fx1]) := by
  unfold tadd
  rw [if_neg (by simpa using right_fx1), if_neg (by simp [tget]), if_neg (by simp)]
  rfl
theorem tadd_fx1b : tadd [fx1] 1 fx1 = (7, [fx1]) := by
  unfold tadd
  rw [if_neg (by simpa using right_fx1), if_pos (by simp [tget])]
theorem tadd_fx2 : tadd [fx1] 1 fx2 = (5, [fx1]) := by
  unfold tadd
  rw [if_neg (by simpa using right_fx2), if_neg (by simp [tget, fx_ne]), if_pos (by simp)]
theorem ordE_one (x : EV) : ordE [x] = [x] := by simp [ordE]
theorem via_fx1 : (ordE [fx1]).filter (viaB 2) = [fx1] := by rw [ordE_one]; rfl
theorem via_fx2 : (ordE [fx1]).filter (viaB (-1)) = [] := by rw [ordE_one]; rfl
theorem own_fx : (ordE [fx1]).filter ownB = [fx1] := by rw [ordE_one]; rfl

end Go.Proofs.YtohldionclgljaaGreat
