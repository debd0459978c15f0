/-
  The order clockwise from a place; MinFunc: contracts.
-/
import Derived.Test.YtbafhclandendaaKj
namespace Go.Proofs.Ytbafhclandendaa
open Go.J Go.RowKit
set_option linter.unusedVariables false
set_option linter.unusedSimpArgs false
set_option maxRecDepth 4000
/-- how far clockwise behind a place -/
noncomputable def dI (me x : IDV) : Nat := valI (subI x me)
theorem dI_inj {me a b : IDV} (h : dI me a = dI me b) : a = b := by
  unfold dI at h
  rw [valI_subI, valI_subI] at h
  have h1 := valI_lt a
  have h2 := valI_lt b
  have h3 := valI_lt me
  exact valI_inj (by omega)

theorem want1_spec (s : Nat) (self a b : IDV) (w : World) (hw0 : Own w [(s, cb (cI self) 23)]) :
    Calls Try.prog 69 [.agg (cI a).toArray, .agg (cI b).toArray, .pointer (some ⟨s, 0, none⟩)].toArray w fun r w' => r = .returned (.int .i64 (cfN (dI self) a b)) ∧ Bel w w' := by
  refine calls_of_J (args := [.agg (cI a).toArray, .agg (cI b).toArray, .pointer (some ⟨s, 0, none⟩)]) (e := [(0, .agg (cI a).toArray), (1, .agg (cI b).toArray), (2, .pointer (some ⟨s, 0, none⟩))]) Try.func69 rfl rfl ⟨rfl, rfl, rfl, trivial⟩ (hw0.st) ?_
  refine JC.seq (fun K0 hK0 => ?_)
  refine JC.region ?_
  refine J.box rfl rfl rfl (fun b3 => ?_)
  refine J.box rfl rfl rfl (fun b4 => ?_)
  refine J.assign rfl rfl ?_
  refine J.nil ?_
  refine JX.thenN (hK0 _ _ ?_)
  refine JC.seq (fun K1 hK1 => ?_)
  apply JC.drawL 7 [Eqv (.agg (cI a).toArray), Eqv (.agg (cI self).toArray), Eqv (.agg (cI (subI a self)).toArray), Eqv (.agg (cI b).toArray), Eqv (.agg (cI self).toArray), Eqv (.agg (cI (subI b self)).toArray), Eqv (.int .i64 (cfN (dI self) a b))] Ty.mixed rfl rfl rfl (by kernel_rfl) rfl rfl (fun w w' hw hb => hw.step hb) ⟨fun _ _ _ h _ => h, fun _ _ _ h _ => h, fun _ _ _ h _ => h, fun _ _ _ h _ => h, fun _ _ _ h _ => h, fun _ _ _ h _ => h, fun _ _ _ h _ => h, trivial⟩ ?hstep ?htail
  case hstep =>
    refine ⟨fun wi => ?_, fun wi => ?_, fun wi => ?_, fun wi => ?_, fun wi => ?_, fun wi => ?_, fun wi => ?_, trivial⟩
    · skip
      refine Fin.nil ?_
      refine J.loadA (vs := cI a) Ty.a23 Ty.s23 rfl rfl (fun w hw => Cells.of_block (hw.2.own (_, _) (by repeat first | exact .head _ | apply List.Mem.tail | apply List.mem_append_right)) (by exact rfl)) rfl ?_
      exact J.finP rfl
    · skip
      refine Fin.nil ?_
      refine J.loadA (vs := cI self) Ty.a23 Ty.s23 rfl rfl (fun w hw => Cells.of_block (hw.2.own (_, _) (by repeat first | exact .head _ | apply List.Mem.tail | apply List.mem_append_right)) (by exact rfl)) rfl ?_
      exact J.finP rfl
    · skip
      refine Fin.consE rfl (Fin.consE rfl (Fin.nil ?_))
      refine J.callD (v := .agg (cI (subI a self)).toArray) Ty.bd70 rfl rfl (fun w1 hw => sub_spec a self w1) ?_
      exact J.finQ rfl
    · skip
      refine Fin.nil ?_
      refine J.loadA (vs := cI b) Ty.a23 Ty.s23 rfl rfl (fun w hw => Cells.of_block (hw.2.own (_, _) (by repeat first | exact .head _ | apply List.Mem.tail | apply List.mem_append_right)) (by exact rfl)) rfl ?_
      exact J.finP rfl
    · skip
      refine Fin.nil ?_
      refine J.loadA (vs := cI self) Ty.a23 Ty.s23 rfl rfl (fun w hw => Cells.of_block (hw.2.own (_, _) (by repeat first | exact .head _ | apply List.Mem.tail | apply List.mem_append_right)) (by exact rfl)) rfl ?_
      exact J.finP rfl
    · skip
      refine Fin.consE rfl (Fin.consE rfl (Fin.consE rfl (Fin.nil ?_)))
      refine J.callD (v := .agg (cI (subI b self)).toArray) Ty.bd70 rfl rfl (fun w1 hw => sub_spec b self w1) ?_
      exact J.finQ rfl
    · skip
      refine Fin.consE rfl (Fin.consE rfl (Fin.consE rfl (Fin.nil ?_)))
      refine J.callD (v := .int .i64 (cfN (dI self) a b)) Ty.bd65 rfl rfl (fun w1 hw => compare_spec (subI a self) (subI b self) w1) ?_
      exact J.finQ rfl
  case htail =>
    refine Fin.consE rfl (Fin.consE rfl (Fin.consE rfl (Fin.consE rfl (Fin.consE rfl (Fin.consE rfl (Fin.consE rfl (Fin.nil ?_)))))))
    refine J.assign rfl rfl ?_
    refine J.nil ?_
    refine JX.thenN (hK1 _ _ ?_)
    refine JC.ret ?_
    refine JX.ret1 rfl rfl (fun w hw => ?_)
    exact ⟨rfl, hw.same hw0 (fun p hp => by simp at hp ⊢; subst hp; simp)⟩

end Go.Proofs.Ytbafhclandendaa
