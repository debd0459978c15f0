/-
  CopiesMarked: what is marked isn't due, until another version is; all else is due.
-/
import Derived.Test.YtbafhclandendaaRows
import Derived.Test.YtbafhclandendaaZCopiesMarkedc
namespace Go.Proofs.Ytbafhclandendaa
namespace CopiesMarkedDone
open Go.ChangeShapes Go.WideShapes Go.ChangeAt Go.RowKit Go.J
open Go.ChangeMaps (open_string shut_string)
set_option linter.unusedVariables false
set_option linter.unusedSimpArgs false
theorem own : ownKnob Try.prog.godebug = none := by kernel_rfl
theorem laidOut : laidOutB Try.prog = true := by kernel_rfl
set_option maxRecDepth 100000 in
theorem lifted (os : Os) (started : os.Started) (H : Type) (enc : TypeId × Value → H) :
    ReturnsInHanded {} Try.checked os 7 .any (Rows.copiesMarkedSpec.pre6 enc Try.prog Try.f7 Rows.copiesMarkedRow.domain false) (Rows.copiesMarkedSpec.post enc Try.prog Try.f7 false true false false) := by
  refine returnsInHanded_of_change_sized (C := Try.checked) own started (by kernel_rfl) Try.func7
    (ChangeSpec.witness6 (enc := enc) (C := Try.checked) false ⟨#[], #[.slice none 0 0, .agg (cIX ⟨⟨zI, zV, []⟩, none, 0⟩).toArray, .agg (cV zV).toArray], []⟩ 8 (by kernel_rfl) (by kernel_rfl) (by kernel_rfl) (by kernel_rfl)) ?_
  intro W base args ds gs before hval0 hW hcnd hsz0 _
  have hsz : (DataW.weightsEach Try.prog (Try.f7.params.toList ++ Rows.copiesMarkedSpec.plain.varTypes Try.prog) (ds ++ gs)).all (· ≤ reachBytes) = true := hsz0
  clear hsz0
  have hval : ∀ (j : Nat) t v, Try.f7.params[j]? = some t → args[j]? = some v → Value.okWide Try.prog W .any base t v := hval0
  have hW' := hW
  obtain ⟨p, q, hA0, hV, rfl, hfz, hnd⟩ := hW
  have hA : DataW.TrodAll enc Try.prog W 0 (fun _ => true) true Try.f7.params.toList args.toList ds p := hA0
  rw [Try.params7] at hA hval hsz
  obtain ⟨v0, vs0, d0, ds0, p0, q0, hargs, rfl, rfl, h0, r0⟩ := trodAll_cons hA
  obtain ⟨v1, vs1, d1, ds1, p1, q1, rfl, rfl, rfl, h1, r1⟩ := trodAll_cons r0
  obtain ⟨v2, vs2, d2, ds2, p2, q2, rfl, rfl, rfl, h2, r2⟩ := trodAll_cons r1
  obtain ⟨rfl, rfl, rfl⟩ := trodAll_nil r2
  obtain rfl : args = #[v0, v1, v2] := by cases args; simp_all
  obtain ⟨rfl, rfl⟩ := trodVars_none hV
  have k0 := h0
  have lt0 : ∀ x ∈ p0, x.block < W.heap.size := by obtain ⟨m, hm⟩ := k0; exact DataW.trod_lt m _ _ _ hm
  have n0 : ∀ n, n ∈ d0.weights Try.prog 24 → n ≤ reachBytes := sized_arg hsz (j := 0) rfl rfl
  have k1 := h1
  have lt1 : ∀ x ∈ p1, x.block < W.heap.size := by obtain ⟨m, hm⟩ := k1; exact DataW.trod_lt m _ _ _ hm
  have n1 : ∀ n, n ∈ d1.weights Try.prog 53 → n ≤ reachBytes := sized_arg hsz (j := 1) rfl rfl
  have k2 := h2
  have lt2 : ∀ x ∈ p2, x.block < W.heap.size := by obtain ⟨m, hm⟩ := k2; exact DataW.trod_lt m _ _ _ hm
  have n2 : ∀ n, n ∈ d2.weights Try.prog 46 → n ≤ reachBytes := sized_arg hsz (j := 2) rfl rfl
  obtain ⟨x0, rfl, w0⟩ := arg_slice Ty.el24 (hval 0 24 v0 rfl rfl) (dec_slice Ty.el24 Ty.s23 Ty.b23 (by omega) dec_id) h0 n0
  obtain ⟨c1, rfl, x1, w1⟩ := arg_agg Ty.a53 (hval 1 53 v1 rfl rfl) (dec_itX) h1 n1
  obtain ⟨c2, rfl, x2, w2⟩ := arg_agg Ty.a46 (hval 2 46 v2 rfl rfl) (dec_verW) h2 n2
  clear hA0 hval0
  refine (copiesMarked_walk W x0 w0 c1 x1 w1 c2 x2 w2).mono fun e W' ⟨he, bel0⟩ => ?_
  subst he
  have bel := bel0.toBelow
  exact ⟨_, rfl, _, _, _, [], _, [], hW', trodAll_mk1 (shut_bool Ty.u4 _), (trodAll_cons_mk (Below.trod laidOut (by kernel_rfl) (of_decide_eq_true (by kernel_rfl)) k0 bel lt0) (trodAll_cons_mk (Below.trod laidOut (by kernel_rfl) (of_decide_eq_true (by kernel_rfl)) k1 bel lt1) (trodAll_cons_mk (Below.trod laidOut (by kernel_rfl) (of_decide_eq_true (by kernel_rfl)) k2 bel lt2) trodAll_mk0))), rfl, bel.frame _, fun h => by cases h⟩
theorem over : Rows.copiesMarkedRow.holds Try.pinned (OpenSpec.ofChange Rows.copiesMarkedSpec) :=
  OpenClaim.holds_of_wide 7 Try.f7 rfl rfl rfl rfl rfl rfl rfl ⟨rfl, rfl, rfl, rfl, rfl⟩ rfl rfl rfl rfl rfl (by kernel_rfl) Try.func7 (by kernel_rfl)
    (of_decide_eq_true (by kernel_rfl)) (by unfold Func.isWrapper; first | (rw [if_pos (by decide +kernel)]; kernel_rfl) | (rw [if_neg (by decide +kernel)]; exact ⟨rfl, rfl⟩))
    (fun os started H enc _ => lifted os started H enc)
end CopiesMarkedDone
/-- the statement -/
theorem copiesMarked_holds : Rows.CopiesMarkedSaid := CopiesMarkedDone.over
#print axioms copiesMarked_holds
end Go.Proofs.Ytbafhclandendaa
