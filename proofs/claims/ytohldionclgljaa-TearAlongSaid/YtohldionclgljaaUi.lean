/-
  Layer 12's example; TableAsks and TableNil: the walks.
-/
import Derived.Test.YtohldionclgljaaUh
namespace Go.Proofs.Ytohldionclgljaa
open Go.J Go.RowKit
set_option linter.unusedVariables false
set_option linter.unusedSimpArgs false
set_option maxRecDepth 4000
def idB : IDV := fun i => if i = 0 then 1 else 0
theorem zI_idB : zI ≠ idB := fun e => by have := congrFun e 0; simp [zI, idB] at this
def fx1 : EV := ⟨⟨zI, 1⟩, zI, idB, -1, 2⟩
def fx2 : EV := ⟨⟨zI, 2⟩, zI, idB, -1, 2⟩
theorem okN1 {n : Int} (h0 : -9223372036854775808 ≤ n) (h1 : n < 9223372036854775808) : okN n := by
  have e1 : IntKind.i64.min = -9223372036854775808 := by decide
  have e2 : IntKind.i64.max = 9223372036854775807 := by decide
  simp only [okN, Lit.wf, e1, e2, Bool.and_eq_true, decide_eq_true_eq]
  omega
theorem ok_fx1 : okE fx1 := ⟨okN1 (by decide) (by decide), okN1 (by decide) (by decide), okN1 (by decide) (by decide)⟩
theorem ok_fx2 : okE fx2 := ⟨okN1 (by decide) (by decide), okN1 (by decide) (by decide), okN1 (by decide) (by decide)⟩
theorem right_fx1 : rightP fx1 := ⟨zI_idB, by decide, by decide, by decide⟩
theorem right_fx2 : rightP fx2 := ⟨zI_idB, by decide, by decide, by decide⟩
theorem fx_ne : fx1.p ≠ fx2.p := fun e => by have := congrArg PV.n e; simp [fx1, fx2] at this
theorem tadd_fx1 : tadd [] 1 fx1 = (0, [fx1]) := by
  unfold tadd
  rw [if_neg (by simpa using right_fx1), if_neg (by simp [tget]), if_neg (by simp)]
  rfl
theorem tadd_fx1b : tadd [fx1] 1 fx1 = (7, [fx1]) := by
  unfold tadd
  rw [if_neg (by simpa using right_fx1), if_pos (by simp [tget])]
theorem tadd_fx2 : tadd [fx1] 1 fx2 = (5, [fx1]) := by
  unfold tadd
  rw [if_neg (by simpa using right_fx2), if_neg (by simp [tget, fx_ne]), if_pos (by simp)]
theorem ordE_one (x : EV) : ordE [x] = [x] := by simp [ordE]
theorem via_fx1 : (ordE [fx1]).filter (viaB 2) = [fx1] := by rw [ordE_one]; rfl
theorem via_fx2 : (ordE [fx1]).filter (viaB (-1)) = [] := by rw [ordE_one]; rfl
theorem own_fx : (ordE [fx1]).filter ownB = [fx1] := by rw [ordE_one]; rfl

end Go.Proofs.Ytohldionclgljaa
