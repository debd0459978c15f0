/-
  SetupAdds: what is refused or passed over leaves the table as it was; what isn't adds just the entry of that path, between the place ahead and the one behind.
-/
import Derived.Test.YtpldpkdlloolkaaRows
import Derived.Test.YtpldpkdlloolkaaZSetupAddse
namespace Go.Proofs.Ytpldpkdlloolkaa
namespace SetupAddsDone
open Go.ChangeShapes Go.WideShapes Go.ChangeAt Go.RowKit Go.J
open Go.ChangeMaps (open_string shut_string)
set_option linter.unusedVariables false
set_option linter.unusedSimpArgs false
theorem own : ownKnob Try.prog.godebug = none := by kernel_rfl
theorem laidOut : laidOutB Try.prog = true := by kernel_rfl
set_option maxRecDepth 100000 in
theorem lifted (os : Os) (started : os.Started) (H : Type) (enc : TypeId × Value → H) :
    ReturnsInHanded {} Try.checked os 14 .any (Rows.setupAddsSpec.pre6 enc Try.prog Try.f14 Rows.setupAddsRow.domain false) (Rows.setupAddsSpec.post enc Try.prog Try.f14 false true false false) := by
  refine returnsInHanded_of_change_sized (C := Try.checked) own started (by kernel_rfl) Try.func14
    (ChangeSpec.witness6 (enc := enc) (C := Try.checked) false ⟨#[], #[.agg (cCase ⟨⟨none, 0, []⟩, 0, 0, zI, ⟨none, 0, []⟩⟩).toArray, .int .i64 0, .agg (cFG (FIn.f ⟨0, zP, false, zI, zI, 0, (0, 0), (0, 0), ⟨none, 0, []⟩, ⟨none, 0, []⟩, zI, (0, zI), ⟨none, 0, []⟩, 0, 0, ⟨none, 0, []⟩⟩) (FIn.s ⟨0, zP, false, zI, zI, 0, (0, 0), (0, 0), ⟨none, 0, []⟩, ⟨none, 0, []⟩, zI, (0, zI), ⟨none, 0, []⟩, 0, 0, ⟨none, 0, []⟩⟩)).toArray], []⟩ 8 (by kernel_rfl) (by kernel_rfl) (by kernel_rfl) (by kernel_rfl)) ?_
  intro W base args ds gs before hval0 hW hcnd hsz0 _
  have hsz : (DataW.weightsEach Try.prog (Try.f14.params.toList ++ Rows.setupAddsSpec.plain.varTypes Try.prog) (ds ++ gs)).all (· ≤ reachBytes) = true := hsz0
  clear hsz0
  have hval : ∀ (j : Nat) t v, Try.f14.params[j]? = some t → args[j]? = some v → Value.okWide Try.prog W .any base t v := hval0
  have hW' := hW
  obtain ⟨p, q, hA0, hV, rfl, hfz, hnd⟩ := hW
  have hA : DataW.TrodAll enc Try.prog W 0 (fun _ => true) true Try.f14.params.toList args.toList ds p := hA0
  rw [Try.params14] at hA hval hsz
  obtain ⟨v0, vs0, d0, ds0, p0, q0, hargs, rfl, rfl, h0, r0⟩ := trodAll_cons hA
  obtain ⟨v1, vs1, d1, ds1, p1, q1, rfl, rfl, rfl, h1, r1⟩ := trodAll_cons r0
  obtain ⟨v2, vs2, d2, ds2, p2, q2, rfl, rfl, rfl, h2, r2⟩ := trodAll_cons r1
  obtain ⟨rfl, rfl, rfl⟩ := trodAll_nil r2
  obtain rfl : args = #[v0, v1, v2] := by cases args; simp_all
  obtain ⟨rfl, rfl⟩ := trodVars_none hV
  have k0 := h0
  have lt0 : ∀ x ∈ p0, x.block < W.heap.size := by obtain ⟨m, hm⟩ := k0; exact DataW.trod_lt m _ _ _ hm
  have n0 : ∀ n, n ∈ d0.weights Try.prog 85 → n ≤ reachBytes := sized_arg hsz (j := 0) rfl rfl
  have k1 := h1
  have lt1 : ∀ x ∈ p1, x.block < W.heap.size := by obtain ⟨m, hm⟩ := k1; exact DataW.trod_lt m _ _ _ hm
  have n1 : ∀ n, n ∈ d1.weights Try.prog 3 → n ≤ reachBytes := sized_arg hsz (j := 1) rfl rfl
  have k2 := h2
  have lt2 : ∀ x ∈ p2, x.block < W.heap.size := by obtain ⟨m, hm⟩ := k2; exact DataW.trod_lt m _ _ _ hm
  have n2 : ∀ n, n ∈ d2.weights Try.prog 52 → n ≤ reachBytes := sized_arg hsz (j := 2) rfl rfl
  obtain ⟨c0, rfl, x0, w0⟩ := arg_agg Ty.a85 (hval 0 85 v0 rfl rfl) (dec_case) h0 n0
  obtain ⟨x1, rfl, w1⟩ := arg_int Ty.u3 (hval 1 3 v1 rfl rfl) h1
  obtain ⟨c2, rfl, x2, w2⟩ := arg_agg Ty.a52 (hval 2 52 v2 rfl rfl) (dec_frame) h2 n2
  clear hA0 hval0
  refine (setupAdds_walk W c0 x0 w0 x1 w1 c2 x2 w2).mono fun e W' ⟨he, bel0⟩ => ?_
  subst he
  have bel := bel0.toBelow
  exact ⟨_, rfl, _, _, _, [], _, [], hW', trodAll_mk1 (shut_bool Ty.u4 _), (trodAll_cons_mk (Below.trod laidOut (by kernel_rfl) (of_decide_eq_true (by kernel_rfl)) k0 bel lt0) (trodAll_cons_mk (Below.trod laidOut (by kernel_rfl) (of_decide_eq_true (by kernel_rfl)) k1 bel lt1) (trodAll_cons_mk (Below.trod laidOut (by kernel_rfl) (of_decide_eq_true (by kernel_rfl)) k2 bel lt2) trodAll_mk0))), rfl, bel.frame _, fun h => by cases h⟩
theorem over : Rows.setupAddsRow.holds Try.pinned (OpenSpec.ofChange Rows.setupAddsSpec) :=
  OpenClaim.holds_of_wide 14 Try.f14 rfl rfl rfl rfl rfl rfl rfl ⟨rfl, rfl, rfl, rfl, rfl⟩ rfl rfl rfl rfl rfl (by kernel_rfl) Try.func14 (by kernel_rfl)
    (of_decide_eq_true (by kernel_rfl)) (by unfold Func.isWrapper; first | (rw [if_pos (by decide +kernel)]; kernel_rfl) | (rw [if_neg (by decide +kernel)]; exact ⟨rfl, rfl⟩))
    (fun os started H enc _ => lifted os started H enc)
end SetupAddsDone
/-- the statement -/
theorem setupAdds_holds : Rows.SetupAddsSaid := SetupAddsDone.over
#print axioms setupAdds_holds
end Go.Proofs.Ytpldpkdlloolkaa
