/-
  VaultForms: which version is newer, and an item's record, is the document's.
-/
import Derived.Test.YtoaenmlhehcjfaaRows
import Derived.Test.YtoaenmlhehcjfaaZVaultFormsd
namespace Go.Proofs.Ytoaenmlhehcjfaa
namespace VaultFormsDone
open Go.ChangeShapes Go.WideShapes Go.ChangeAt Go.RowKit Go.J
open Go.ChangeMaps (open_string shut_string)
set_option linter.unusedVariables false
set_option linter.unusedSimpArgs false
theorem own : ownKnob Try.prog.godebug = none := by kernel_rfl
theorem laidOut : laidOutB Try.prog = true := by kernel_rfl
set_option maxRecDepth 100000 in
theorem lifted (os : Os) (started : os.Started) (H : Type) (enc : TypeId × Value → H) :
    ReturnsInHanded {} Try.checked os 3 .any (Rows.vaultFormsSpec.pre6 enc Try.prog Try.f3 Rows.vaultFormsRow.domain false) (Rows.vaultFormsSpec.post enc Try.prog Try.f3 false true false false) := by
  refine returnsInHanded_of_change_sized (C := Try.checked) own started (by kernel_rfl) Try.func3
    (ChangeSpec.witness6 (enc := enc) (C := Try.checked) false ⟨#[], #[.agg (cI zI ++ cV zV ++ [Value.slice none 0 0]).toArray, .agg (cV zV).toArray, .agg (cV zV).toArray], []⟩ 8 (by kernel_rfl) (by kernel_rfl) (by kernel_rfl) (by kernel_rfl)) ?_
  intro W base args ds gs before hval0 hW hcnd hsz0 _
  have hsz : (DataW.weightsEach Try.prog (Try.f3.params.toList ++ Rows.vaultFormsSpec.plain.varTypes Try.prog) (ds ++ gs)).all (· ≤ reachBytes) = true := hsz0
  clear hsz0
  have hval : ∀ (j : Nat) t v, Try.f3.params[j]? = some t → args[j]? = some v → Value.okWide Try.prog W .any base t v := hval0
  have hW' := hW
  obtain ⟨p, q, hA0, hV, rfl, hfz, hnd⟩ := hW
  have hA : DataW.TrodAll enc Try.prog W 0 (fun _ => true) true Try.f3.params.toList args.toList ds p := hA0
  rw [Try.params3] at hA hval hsz
  obtain ⟨v0, vs0, d0, ds0, p0, q0, hargs, rfl, rfl, h0, r0⟩ := trodAll_cons hA
  obtain ⟨v1, vs1, d1, ds1, p1, q1, rfl, rfl, rfl, h1, r1⟩ := trodAll_cons r0
  obtain ⟨v2, vs2, d2, ds2, p2, q2, rfl, rfl, rfl, h2, r2⟩ := trodAll_cons r1
  obtain ⟨rfl, rfl, rfl⟩ := trodAll_nil r2
  obtain rfl : args = #[v0, v1, v2] := by cases args; simp_all
  obtain ⟨rfl, rfl⟩ := trodVars_none hV
  have k0 := h0
  have lt0 : ∀ x ∈ p0, x.block < W.heap.size := by obtain ⟨m, hm⟩ := k0; exact DataW.trod_lt m _ _ _ hm
  have n0 : ∀ n, n ∈ d0.weights Try.prog 28 → n ≤ reachBytes := sized_arg hsz (j := 0) rfl rfl
  have k1 := h1
  have lt1 : ∀ x ∈ p1, x.block < W.heap.size := by obtain ⟨m, hm⟩ := k1; exact DataW.trod_lt m _ _ _ hm
  have n1 : ∀ n, n ∈ d1.weights Try.prog 25 → n ≤ reachBytes := sized_arg hsz (j := 1) rfl rfl
  have k2 := h2
  have lt2 : ∀ x ∈ p2, x.block < W.heap.size := by obtain ⟨m, hm⟩ := k2; exact DataW.trod_lt m _ _ _ hm
  have n2 : ∀ n, n ∈ d2.weights Try.prog 25 → n ≤ reachBytes := sized_arg hsz (j := 2) rfl rfl
  obtain ⟨c0, rfl, x0, w0⟩ := arg_agg Ty.a28 (hval 0 28 v0 rfl rfl) (dec_itx) h0 n0
  obtain ⟨c1, rfl, x1, w1⟩ := arg_agg Ty.a25 (hval 1 25 v1 rfl rfl) (dec_ver) h1 n1
  obtain ⟨c2, rfl, x2, w2⟩ := arg_agg Ty.a25 (hval 2 25 v2 rfl rfl) (dec_ver) h2 n2
  clear hA0 hval0
  refine (vaultForms_walk W c0 x0 w0 c1 x1 w1 c2 x2 w2).mono fun e W' ⟨he, bel0⟩ => ?_
  subst he
  have bel := bel0.toBelow
  exact ⟨_, rfl, _, _, _, [], _, [], hW', trodAll_mk1 (shut_bool Ty.u4 _), (trodAll_cons_mk (Below.trod laidOut (by kernel_rfl) (of_decide_eq_true (by kernel_rfl)) k0 bel lt0) (trodAll_cons_mk (Below.trod laidOut (by kernel_rfl) (of_decide_eq_true (by kernel_rfl)) k1 bel lt1) (trodAll_cons_mk (Below.trod laidOut (by kernel_rfl) (of_decide_eq_true (by kernel_rfl)) k2 bel lt2) trodAll_mk0))), rfl, bel.frame _, fun h => by cases h⟩
theorem over : Rows.vaultFormsRow.holds Try.pinned (OpenSpec.ofChange Rows.vaultFormsSpec) :=
  OpenClaim.holds_of_wide 3 Try.f3 rfl rfl rfl rfl rfl rfl rfl ⟨rfl, rfl, rfl, rfl, rfl⟩ rfl rfl rfl rfl rfl (by kernel_rfl) Try.func3 (by kernel_rfl)
    (of_decide_eq_true (by kernel_rfl)) (by unfold Func.isWrapper; first | (rw [if_pos (by decide +kernel)]; kernel_rfl) | (rw [if_neg (by decide +kernel)]; exact ⟨rfl, rfl⟩))
    (fun os started H enc _ => lifted os started H enc)
end VaultFormsDone
/-- the statement -/
theorem vaultForms_holds : Rows.VaultFormsSaid := VaultFormsDone.over
#print axioms vaultForms_holds
end Go.Proofs.Ytoaenmlhehcjfaa
