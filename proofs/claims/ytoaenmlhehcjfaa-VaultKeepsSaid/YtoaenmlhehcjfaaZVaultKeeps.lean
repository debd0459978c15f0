/-
  VaultKeeps: wherever power fails, and however often a vault is opened again, of each key a version is kept that isn't older than any that was answered OK, and it is one that was handed in.
-/
import Derived.Test.YtoaenmlhehcjfaaRows
import Derived.Test.YtoaenmlhehcjfaaZVaultKeepse
namespace Go.Proofs.Ytoaenmlhehcjfaa
namespace VaultKeepsDone
open Go.ChangeShapes Go.WideShapes Go.ChangeAt Go.RowKit Go.J
open Go.ChangeMaps (open_string shut_string)
set_option linter.unusedVariables false
set_option linter.unusedSimpArgs false
theorem own : ownKnob Try.prog.godebug = none := by kernel_rfl
theorem laidOut : laidOutB Try.prog = true := by kernel_rfl
set_option maxRecDepth 100000 in
theorem lifted (os : Os) (started : os.Started) (H : Type) (enc : TypeId × Value → H) :
    ReturnsInHanded {} Try.checked os 7 .any (Rows.vaultKeepsSpec.pre6 enc Try.prog Try.f7 Rows.vaultKeepsRow.domain false) (Rows.vaultKeepsSpec.post enc Try.prog Try.f7 false true false false) := by
  refine returnsInHanded_of_change_sized (C := Try.checked) own started (by kernel_rfl) Try.func7
    (ChangeSpec.witness6 (enc := enc) (C := Try.checked) false ⟨#[], #[.slice none 0 0, .slice none 0 0], []⟩ 8 (by kernel_rfl) (by kernel_rfl) (by kernel_rfl) (by kernel_rfl)) ?_
  intro W base args ds gs before hval0 hW hcnd hsz0 _
  have hsz : (DataW.weightsEach Try.prog (Try.f7.params.toList ++ Rows.vaultKeepsSpec.plain.varTypes Try.prog) (ds ++ gs)).all (· ≤ reachBytes) = true := hsz0
  clear hsz0
  have hval : ∀ (j : Nat) t v, Try.f7.params[j]? = some t → args[j]? = some v → Value.okWide Try.prog W .any base t v := hval0
  have hW' := hW
  obtain ⟨p, q, hA0, hV, rfl, hfz, hnd⟩ := hW
  have hA : DataW.TrodAll enc Try.prog W 0 (fun _ => true) true Try.f7.params.toList args.toList ds p := hA0
  rw [Try.params7] at hA hval hsz
  obtain ⟨v0, vs0, d0, ds0, p0, q0, hargs, rfl, rfl, h0, r0⟩ := trodAll_cons hA
  obtain ⟨v1, vs1, d1, ds1, p1, q1, rfl, rfl, rfl, h1, r1⟩ := trodAll_cons r0
  obtain ⟨rfl, rfl, rfl⟩ := trodAll_nil r1
  obtain rfl : args = #[v0, v1] := by cases args; simp_all
  obtain ⟨rfl, rfl⟩ := trodVars_none hV
  have k0 := h0
  have lt0 : ∀ x ∈ p0, x.block < W.heap.size := by obtain ⟨m, hm⟩ := k0; exact DataW.trod_lt m _ _ _ hm
  have n0 : ∀ n, n ∈ d0.weights Try.prog 44 → n ≤ reachBytes := sized_arg hsz (j := 0) rfl rfl
  have k1 := h1
  have lt1 : ∀ x ∈ p1, x.block < W.heap.size := by obtain ⟨m, hm⟩ := k1; exact DataW.trod_lt m _ _ _ hm
  have n1 : ∀ n, n ∈ d1.weights Try.prog 33 → n ≤ reachBytes := sized_arg hsz (j := 1) rfl rfl
  obtain ⟨x0, rfl, w0⟩ := arg_slice Ty.el44 (hval 0 44 v0 rfl rfl) (dec_slice Ty.el44 Ty.s28 Ty.b28 (by omega) dec_itx) h0 n0
  obtain ⟨x1, rfl, w1⟩ := arg_slice Ty.el33 (hval 1 33 v1 rfl rfl) (dec_slice Ty.el33 Ty.s3 Ty.b3 (by omega) (dec_int Ty.u3)) h1 n1
  clear hA0 hval0
  refine (vaultKeeps_walk W x0 w0 x1 w1).mono fun e W' ⟨he, bel0⟩ => ?_
  subst he
  have bel := bel0.toBelow
  exact ⟨_, rfl, _, _, _, [], _, [], hW', trodAll_mk1 (shut_bool Ty.u4 _), (trodAll_cons_mk (Below.trod laidOut (by kernel_rfl) (of_decide_eq_true (by kernel_rfl)) k0 bel lt0) (trodAll_cons_mk (Below.trod laidOut (by kernel_rfl) (of_decide_eq_true (by kernel_rfl)) k1 bel lt1) trodAll_mk0)), rfl, bel.frame _, fun h => by cases h⟩
theorem over : Rows.vaultKeepsRow.holds Try.pinned (OpenSpec.ofChange Rows.vaultKeepsSpec) :=
  OpenClaim.holds_of_wide 7 Try.f7 rfl rfl rfl rfl rfl rfl rfl ⟨rfl, rfl, rfl, rfl, rfl⟩ rfl rfl rfl rfl rfl (by kernel_rfl) Try.func7 (by kernel_rfl)
    (of_decide_eq_true (by kernel_rfl)) (by unfold Func.isWrapper; first | (rw [if_pos (by decide +kernel)]; kernel_rfl) | (rw [if_neg (by decide +kernel)]; exact ⟨rfl, rfl⟩))
    (fun os started H enc _ => lifted os started H enc)
end VaultKeepsDone
/-- the statement -/
theorem vaultKeeps_holds : Rows.VaultKeepsSaid := VaultKeepsDone.over
#print axioms vaultKeeps_holds
end Go.Proofs.Ytoaenmlhehcjfaa
