/-
  VaultPlays: whatever is put, merged and asked, with power for any number of writes, and opened again in between, is answered and kept as the document says, to the byte.
-/
import Derived.Test.YtoaenmlhehcjfaaRows
import Derived.Test.YtoaenmlhehcjfaaZVaultPlaysf
namespace Go.Proofs.Ytoaenmlhehcjfaa
namespace VaultPlaysDone
open Go.ChangeShapes Go.WideShapes Go.ChangeAt Go.RowKit Go.J
open Go.ChangeMaps (open_string shut_string)
set_option linter.unusedVariables false
set_option linter.unusedSimpArgs false
theorem own : ownKnob Try.prog.godebug = none := by kernel_rfl
theorem laidOut : laidOutB Try.prog = true := by kernel_rfl
set_option maxRecDepth 100000 in
theorem lifted (os : Os) (started : os.Started) (H : Type) (enc : TypeId × Value → H) :
    ReturnsInHanded {} Try.checked os 9 .any (Rows.vaultPlaysSpec.pre6 enc Try.prog Try.f9 Rows.vaultPlaysRow.domain false) (Rows.vaultPlaysSpec.post enc Try.prog Try.f9 false true false false) := by
  refine returnsInHanded_of_change_sized (C := Try.checked) own started (by kernel_rfl) Try.func9
    (ChangeSpec.witness6 (enc := enc) (C := Try.checked) false ⟨#[], #[.int .i64 0, .slice none 0 0], []⟩ 8 (by kernel_rfl) (by kernel_rfl) (by kernel_rfl) (by kernel_rfl)) ?_
  intro W base args ds gs before hval0 hW hcnd hsz0 _
  have hsz : (DataW.weightsEach Try.prog (Try.f9.params.toList ++ Rows.vaultPlaysSpec.plain.varTypes Try.prog) (ds ++ gs)).all (· ≤ reachBytes) = true := hsz0
  clear hsz0
  have hval : ∀ (j : Nat) t v, Try.f9.params[j]? = some t → args[j]? = some v → Value.okWide Try.prog W .any base t v := hval0
  have hW' := hW
  obtain ⟨p, q, hA0, hV, rfl, hfz, hnd⟩ := hW
  have hA : DataW.TrodAll enc Try.prog W 0 (fun _ => true) true Try.f9.params.toList args.toList ds p := hA0
  rw [Try.params9] at hA hval hsz
  obtain ⟨v0, vs0, d0, ds0, p0, q0, hargs, rfl, rfl, h0, r0⟩ := trodAll_cons hA
  obtain ⟨v1, vs1, d1, ds1, p1, q1, rfl, rfl, rfl, h1, r1⟩ := trodAll_cons r0
  obtain ⟨rfl, rfl, rfl⟩ := trodAll_nil r1
  obtain rfl : args = #[v0, v1] := by cases args; simp_all
  obtain ⟨rfl, rfl⟩ := trodVars_none hV
  have k0 := h0
  have lt0 : ∀ x ∈ p0, x.block < W.heap.size := by obtain ⟨m, hm⟩ := k0; exact DataW.trod_lt m _ _ _ hm
  have n0 : ∀ n, n ∈ d0.weights Try.prog 3 → n ≤ reachBytes := sized_arg hsz (j := 0) rfl rfl
  have k1 := h1
  have lt1 : ∀ x ∈ p1, x.block < W.heap.size := by obtain ⟨m, hm⟩ := k1; exact DataW.trod_lt m _ _ _ hm
  have n1 : ∀ n, n ∈ d1.weights Try.prog 76 → n ≤ reachBytes := sized_arg hsz (j := 1) rfl rfl
  obtain ⟨x0, rfl, w0⟩ := arg_int Ty.u3 (hval 0 3 v0 rfl rfl) h0
  obtain ⟨x1, rfl, w1⟩ := arg_slice Ty.el76 (hval 1 76 v1 rfl rfl) (dec_slice Ty.el76 Ty.s78 Ty.b78 (by omega) dec_opx) h1 n1
  clear hA0 hval0
  refine (vaultPlays_walk W x0 w0 x1 w1).mono fun e W' ⟨he, bel0⟩ => ?_
  subst he
  have bel := bel0.toBelow
  exact ⟨_, rfl, _, _, _, [], _, [], hW', trodAll_mk1 (shut_bool Ty.u4 _), (trodAll_cons_mk (Below.trod laidOut (by kernel_rfl) (of_decide_eq_true (by kernel_rfl)) k0 bel lt0) (trodAll_cons_mk (Below.trod laidOut (by kernel_rfl) (of_decide_eq_true (by kernel_rfl)) k1 bel lt1) trodAll_mk0)), rfl, bel.frame _, fun h => by cases h⟩
theorem over : Rows.vaultPlaysRow.holds Try.pinned (OpenSpec.ofChange Rows.vaultPlaysSpec) :=
  OpenClaim.holds_of_wide 9 Try.f9 rfl rfl rfl rfl rfl rfl rfl ⟨rfl, rfl, rfl, rfl, rfl⟩ rfl rfl rfl rfl rfl (by kernel_rfl) Try.func9 (by kernel_rfl)
    (of_decide_eq_true (by kernel_rfl)) (by unfold Func.isWrapper; first | (rw [if_pos (by decide +kernel)]; kernel_rfl) | (rw [if_neg (by decide +kernel)]; exact ⟨rfl, rfl⟩))
    (fun os started H enc _ => lifted os started H enc)
end VaultPlaysDone
/-- the statement -/
theorem vaultPlays_holds : Rows.VaultPlaysSaid := VaultPlaysDone.over
#print axioms vaultPlays_holds
end Go.Proofs.Ytoaenmlhehcjfaa
