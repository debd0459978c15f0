/-
  VaultOpens: of any records a vault is opened just where the document says, and keeps of each key the newest item.
-/
import Derived.Test.YtoaenmlhehcjfaaRows
import Derived.Test.YtoaenmlhehcjfaaZVaultOpensf
namespace Go.Proofs.Ytoaenmlhehcjfaa
namespace VaultOpensDone
open Go.ChangeShapes Go.WideShapes Go.ChangeAt Go.RowKit Go.J
open Go.ChangeMaps (open_string shut_string)
set_option linter.unusedVariables false
set_option linter.unusedSimpArgs false
theorem own : ownKnob Try.prog.godebug = none := by kernel_rfl
theorem laidOut : laidOutB Try.prog = true := by kernel_rfl
set_option maxRecDepth 100000 in
theorem lifted (os : Os) (started : os.Started) (H : Type) (enc : TypeId × Value → H) :
    ReturnsInHanded {} Try.checked os 8 .any (Rows.vaultOpensSpec.pre6 enc Try.prog Try.f8 Rows.vaultOpensRow.domain false) (Rows.vaultOpensSpec.post enc Try.prog Try.f8 false true false false) := by
  refine returnsInHanded_of_change_sized (C := Try.checked) own started (by kernel_rfl) Try.func8
    (ChangeSpec.witness6 (enc := enc) (C := Try.checked) false ⟨#[], #[.slice none 0 0], []⟩ 8 (by kernel_rfl) (by kernel_rfl) (by kernel_rfl) (by kernel_rfl)) ?_
  intro W base args ds gs before hval0 hW hcnd hsz0 _
  have hsz : (DataW.weightsEach Try.prog (Try.f8.params.toList ++ Rows.vaultOpensSpec.plain.varTypes Try.prog) (ds ++ gs)).all (· ≤ reachBytes) = true := hsz0
  clear hsz0
  have hval : ∀ (j : Nat) t v, Try.f8.params[j]? = some t → args[j]? = some v → Value.okWide Try.prog W .any base t v := hval0
  have hW' := hW
  obtain ⟨p, q, hA0, hV, rfl, hfz, hnd⟩ := hW
  have hA : DataW.TrodAll enc Try.prog W 0 (fun _ => true) true Try.f8.params.toList args.toList ds p := hA0
  rw [Try.params8] at hA hval hsz
  obtain ⟨v0, vs0, d0, ds0, p0, q0, hargs, rfl, rfl, h0, r0⟩ := trodAll_cons hA
  obtain ⟨rfl, rfl, rfl⟩ := trodAll_nil r0
  obtain rfl : args = #[v0] := by cases args; simp_all
  obtain ⟨rfl, rfl⟩ := trodVars_none hV
  have k0 := h0
  have lt0 : ∀ x ∈ p0, x.block < W.heap.size := by obtain ⟨m, hm⟩ := k0; exact DataW.trod_lt m _ _ _ hm
  have n0 : ∀ n, n ∈ d0.weights Try.prog 57 → n ≤ reachBytes := sized_arg hsz (j := 0) rfl rfl
  obtain ⟨x0, rfl, w0⟩ := arg_slice Ty.el57 (hval 0 57 v0 rfl rfl) (dec_slice Ty.el57 Ty.s26 Ty.b26 (by omega) (dec_slice Ty.el26 Ty.s5 Ty.b5 (by omega) (dec_u8 Ty.u5))) h0 n0
  clear hA0 hval0
  refine (vaultOpens_walk W x0 w0).mono fun e W' ⟨he, bel0⟩ => ?_
  subst he
  have bel := bel0.toBelow
  exact ⟨_, rfl, _, _, _, [], _, [], hW', trodAll_mk1 (shut_bool Ty.u4 _), (trodAll_cons_mk (Below.trod laidOut (by kernel_rfl) (of_decide_eq_true (by kernel_rfl)) k0 bel lt0) trodAll_mk0), rfl, bel.frame _, fun h => by cases h⟩
theorem over : Rows.vaultOpensRow.holds Try.pinned (OpenSpec.ofChange Rows.vaultOpensSpec) :=
  OpenClaim.holds_of_wide 8 Try.f8 rfl rfl rfl rfl rfl rfl rfl ⟨rfl, rfl, rfl, rfl, rfl⟩ rfl rfl rfl rfl rfl (by kernel_rfl) Try.func8 (by kernel_rfl)
    (of_decide_eq_true (by kernel_rfl)) (by unfold Func.isWrapper; first | (rw [if_pos (by decide +kernel)]; kernel_rfl) | (rw [if_neg (by decide +kernel)]; exact ⟨rfl, rfl⟩))
    (fun os started H enc _ => lifted os started H enc)
end VaultOpensDone
/-- the statement -/
theorem vaultOpens_holds : Rows.VaultOpensSaid := VaultOpensDone.over
#print axioms vaultOpens_holds
end Go.Proofs.Ytoaenmlhehcjfaa
