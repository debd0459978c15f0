/-
  ring.Next: contract.
-/
import Derived.Test.YtdpbgmbicdgdbaaKl
namespace Go.Proofs.Ytdpbgmbicdgdbaa
open Go.J Go.RowKit
set_option linter.unusedVariables false
set_option linter.unusedSimpArgs false
set_option maxRecDepth 4000
/-- the first one clockwise -/
def IsNext (me : IDV) (xs : List IDV) (m : IDV) : Prop := (m ∈ xs ∧ m ≠ me) ∧ ∀ y, y ∈ xs → y ≠ me → dI me m ≤ dI me y
theorem IsNext.uniq {me : IDV} {xs : List IDV} {m m' : IDV} (h : IsNext me xs m) (h' : IsNext me xs m') : m = m' :=
  dI_inj (Nat.le_antisymm (h.2 m' h'.1.1 h'.1.2) (h'.2 m h.1.1 h.1.2))
open Classical in
noncomputable def nextO (me : IDV) (xs : List IDV) : Option IDV := if h : ∃ m, IsNext me xs m then some h.choose else none
theorem nextO_of {me : IDV} {xs : List IDV} {m : IDV} (h : IsNext me xs m) : nextO me xs = some m := by
  unfold nextO
  rw [dif_pos ⟨m, h⟩]
  congr 1
  exact (Exists.choose_spec ⟨m, h⟩ : IsNext me xs _).uniq h
theorem nextO_none {me : IDV} {xs : List IDV} (h : ∀ x, x ∈ xs → x = me) : nextO me xs = none := by
  unfold nextO
  rw [dif_neg]
  rintro ⟨m, hm⟩
  exact hm.1.2 (h m hm.1.1)
theorem nextO_some {me : IDV} {xs : List IDV} {m : IDV} (h : nextO me xs = some m) : IsNext me xs m := by
  unfold nextO at h
  split at h
  · rename_i hx
    cases h
    exact hx.choose_spec
  · cases h
theorem IsNext.of_sort {me : IDV} {xs : List IDV} {m : IDV} (h : m ∈ sortI xs me ∧ ∀ y, y ∈ sortI xs me → dI me m ≤ dI me y) : IsNext me xs m :=
  ⟨(sortI_mem xs me m).1 h.1, fun y hy hn => h.2 y ((sortI_mem xs me y).2 ⟨hy, hn⟩)⟩
theorem sortI_nil {me : IDV} {xs : List IDV} (h : (sortI xs me).length = 0) : nextO me xs = none := by
  refine nextO_none fun x hx => ?_
  have h0 := List.eq_nil_of_length_eq_zero h
  apply Classical.byContradiction
  intro hne
  have := (sortI_mem xs me x).2 ⟨hx, hne⟩
  rw [h0] at this
  cases this

theorem next_spec (self : IDV) (v : Value) (xs : List IDV) (w : World) (hr : Row w v xs.length (fI xs)) (hl : xs.length ≤ 8796093022208) :
    Calls Try.prog 22 [.agg (cI self).toArray, v].toArray w fun r w' => r = .returned (.tuple #[.agg (cI ((nextO self xs).getD zI)).toArray, .bool (nextO self xs).isSome]) ∧ Bel w w' := by
  refine calls_of_J (args := [.agg (cI self).toArray, v]) (e := [(0, .agg (cI self).toArray), (1, v)]) Try.func22 rfl rfl ⟨rfl, rfl, trivial⟩ (St.start w) ?_
  refine JC.seq (fun K0 hK0 => ?_)
  refine JC.region ?_
  refine J.box rfl rfl rfl (fun b2 => ?_)
  refine J.alloc Ty.zID rfl rfl (fun b4 => ?_)
  refine J.assign rfl rfl ?_
  refine J.nil ?_
  refine JX.thenN (hK0 _ _ ?_)
  refine JC.seq (fun K1 hK1 => ?_)
  refine JC.region ?_
  (first | refine J.loadOA (vs := cI self) Ty.a23 Ty.s23 rfl (.head _) rfl rfl rfl ?_ | refine J.loadOA (vs := cI self) Ty.a23 Ty.s23 rfl (.tail _ (.head _)) rfl rfl rfl ?_ | refine J.loadOA (vs := cI self) Ty.a23 Ty.s23 rfl (.tail _ (.tail _ (.head _))) rfl rfl rfl ?_ | refine J.loadOA (vs := cI self) Ty.a23 Ty.s23 rfl (.tail _ (.tail _ (.tail _ (.head _)))) rfl rfl rfl ?_ | refine J.loadOA (vs := cI self) Ty.a23 Ty.s23 rfl (.tail _ (.tail _ (.tail _ (.tail _ (.head _))))) rfl rfl rfl ?_ | refine J.loadOA (vs := cI self) Ty.a23 Ty.s23 rfl (.tail _ (.tail _ (.tail _ (.tail _ (.tail _ (.head _)))))) rfl rfl rfl ?_ | refine J.loadOA (vs := cI self) Ty.a23 Ty.s23 rfl (.tail _ (.tail _ (.tail _ (.tail _ (.tail _ (.tail _ (.head _))))))) rfl rfl rfl ?_ | refine J.loadOA (vs := cI self) Ty.a23 Ty.s23 rfl (.tail _ (.tail _ (.tail _ (.tail _ (.tail _ (.tail _ (.tail _ (.head _)))))))) rfl rfl rfl ?_ | refine J.loadOA (vs := cI self) Ty.a23 Ty.s23 rfl (.tail _ (.tail _ (.tail _ (.tail _ (.tail _ (.tail _ (.tail _ (.tail _ (.head _))))))))) rfl rfl rfl ?_ | refine J.loadOA (vs := cI self) Ty.a23 Ty.s23 rfl (.tail _ (.tail _ (.tail _ (.tail _ (.tail _ (.tail _ (.tail _ (.tail _ (.tail _ (.head _)))))))))) rfl rfl rfl ?_ | refine J.loadOA (vs := cI self) Ty.a23 Ty.s23 rfl (.tail _ (.tail _ (.tail _ (.tail _ (.tail _ (.tail _ (.tail _ (.tail _ (.tail _ (.tail _ (.head _))))))))))) rfl rfl rfl ?_ | refine J.loadOA (vs := cI self) Ty.a23 Ty.s23 rfl (.tail _ (.tail _ (.tail _ (.tail _ (.tail _ (.tail _ (.tail _ (.tail _ (.tail _ (.tail _ (.tail _ (.head _)))))))))))) rfl rfl rfl ?_ | refine J.loadOA (vs := cI self) Ty.a23 Ty.s23 rfl (List.mem_append_right _ (.head _)) rfl rfl rfl ?_ | refine J.loadOA (vs := cI self) Ty.a23 Ty.s23 rfl (List.mem_append_right _ (.tail _ (.head _))) rfl rfl rfl ?_ | refine J.loadOA (vs := cI self) Ty.a23 Ty.s23 rfl (List.mem_append_right _ (.tail _ (.tail _ (.head _)))) rfl rfl rfl ?_ | refine J.loadOA (vs := cI self) Ty.a23 Ty.s23 rfl (List.mem_append_right _ (.tail _ (.tail _ (.tail _ (.head _))))) rfl rfl rfl ?_ | refine J.loadOA (vs := cI self) Ty.a23 Ty.s23 rfl (List.mem_append_right _ (.tail _ (.tail _ (.tail _ (.tail _ (.head _)))))) rfl rfl rfl ?_ | refine J.loadOA (vs := cI self) Ty.a23 Ty.s23 rfl (List.mem_append_right _ (.tail _ (.tail _ (.tail _ (.tail _ (.tail _ (.head _))))))) rfl rfl rfl ?_ | refine J.loadOA (vs := cI self) Ty.a23 Ty.s23 rfl (List.mem_append_right _ (.tail _ (.tail _ (.tail _ (.tail _ (.tail _ (.tail _ (.head _)))))))) rfl rfl rfl ?_ | refine J.loadOA (vs := cI self) Ty.a23 Ty.s23 rfl (List.mem_append_right _ (.tail _ (.tail _ (.tail _ (.tail _ (.tail _ (.tail _ (.tail _ (.head _))))))))) rfl rfl rfl ?_ | refine J.loadOA (vs := cI self) Ty.a23 Ty.s23 rfl (List.mem_append_right _ (.tail _ (.tail _ (.tail _ (.tail _ (.tail _ (.tail _ (.tail _ (.tail _ (.head _)))))))))) rfl rfl rfl ?_ | refine J.loadOA (vs := cI self) Ty.a23 Ty.s23 rfl (List.mem_append_right _ (.tail _ (.tail _ (.tail _ (.tail _ (.tail _ (.tail _ (.tail _ (.tail _ (.tail _ (.head _))))))))))) rfl rfl rfl ?_ | refine J.loadOA (vs := cI self) Ty.a23 Ty.s23 rfl (List.mem_append_right _ (.tail _ (.tail _ (.tail _ (.tail _ (.tail _ (.tail _ (.tail _ (.tail _ (.tail _ (.tail _ (.head _)))))))))))) rfl rfl rfl ?_ | refine J.loadOA (vs := cI self) Ty.a23 Ty.s23 rfl (List.mem_append_right _ (.tail _ (.tail _ (.tail _ (.tail _ (.tail _ (.tail _ (.tail _ (.tail _ (.tail _ (.tail _ (.tail _ (.head _))))))))))))) rfl rfl rfl ?_)
  refine J.move rfl rfl ?_
  refine J.callS (α := Value × List (Nat × Obj)) (V := (·.1)) (Pr := fun x => Vec 23 16 x.1 (sortI xs self).length (fI (sortI xs self)) x.2) (L := (·.2)) (l1 := []) (l := [(b4, cb (cI zI) 23), (b2, cb (cI self) 23)]) Ty.bd17 rfl rfl (fun w1 hw => sorted_spec self v xs w1 (hr.st (.inr (by simp)) hw) hl) (fun x hx => ?_)
  obtain ⟨vs, ls⟩ := x
  simp only at hx ⊢
  have hsl := sortI_le xs self
  obtain ⟨aq, cq, rfl, hcs⟩ := hx.form
  refine J.perm ((b4, cb (cI zI) 23) :: (b2, cb (cI self) 23) :: ls) (by (refine perm_cnt (fun _ => ?_)); simp only [cntB_append, cntB_cons, cntB_nil, Nat.add_zero, Nat.zero_add]; try ac_rfl) ?_
  refine J.assign rfl rfl ?_
  refine J.nil ?_
  refine JX.thenN (hK1 _ _ ?_)
  refine JC.seq (fun K2 hK2 => ?_)
  refine JC.seq (fun K3 hK3 => ?_)
  refine JC.region ?_
  refine J.move rfl rfl ?_
  refine J.lenS rfl Ty.u24 rfl rfl ?_
  refine J.bin rfl rfl rfl rfl ?_
  refine J.nil ?_
  refine JX.thenN (hK3 _ _ ?_)
  refine JC.cond rfl (fun h0 => ?_) (fun h0 => ?_)
  · skip
    have hl0 : (sortI xs self).length = 0 := by simp at h0; simp [h0]
    have hnone := sortI_nil hl0
    refine JC.seq (fun K4 hK4 => ?_)
    refine JC.region ?_
    refine J.buildA Ty.ar23 Ty.s5 Ty.z23 rfl rfl rfl ?_
    refine J.storeW (cs := cI zI) (vs := cI zI) Ty.s23 rfl rfl rfl rfl rfl (by simp [Value.oneCell']) .here ?_
    refine J.assign rfl rfl ?_
    refine J.nil ?_
    refine JX.thenN (hK4 _ _ ?_)
    refine JC.ret ?_
    refine JX.thenR ?_
    refine JX.retCT rfl rfl rfl Ty.a23 Ty.s23 (vs := cI zI) rfl (fun w1 hw => Cells.of_block (hw.own _ (.head _)) rfl) (fun w1 hw => ?_)
    exact ⟨by rw [hnone]; rfl, (hw.drop (List.nil_sublist _)).below⟩
  · skip
    have hl0 : 0 < (sortI xs self).length := by
      rcases Nat.eq_zero_or_pos (sortI xs self).length with h | h
      · simp [h] at h0
      · exact h
    refine JC.skip ?_
    refine JX.thenN (hK2 _ _ ?_)
    refine JC.seq (fun K5 hK5 => ?_)
    refine JC.region ?_
    refine J.move rfl rfl ?_
    refine J.makeFn rfl rfl ?_
    refine J.perm ([(b2, cb (cI self) 23)] ++ ((b4, cb (cI zI) 23) :: ls)) (by (refine perm_cnt (fun _ => ?_)); simp only [cntB_append, cntB_cons, cntB_nil, Nat.add_zero, Nat.zero_add]; try ac_rfl) ?_
    refine J.callS (α := IDV) (V := fun m => .agg (cI m).toArray) (Pr := fun m => m ∈ sortI xs self ∧ ∀ y, y ∈ sortI xs self → dI self m ≤ dI self y) (L := fun _ => [(b2, cb (cI self) 23)]) (l1 := [(b2, cb (cI self) 23)]) (l := (b4, cb (cI zI) 23) :: ls) Ty.bd46 rfl rfl (fun w1 hw => (minFunc_spec _ (sortI xs self) b2 self w1 hw.owns (hx.row (S := []) (l := [(b2, cb (cI self) 23), (b4, cb (cI zI) 23)]) (hw.perm (by (refine perm_cnt (fun _ => ?_)); simp only [cntB_append, cntB_cons, cntB_nil, Nat.add_zero, Nat.zero_add]; try ac_rfl))) (hx.off (l1 := [(b2, cb (cI self) 23)]) (l := [(b4, cb (cI zI) 23)]) (hw.perm (by (refine perm_cnt (fun _ => ?_)); simp only [cntB_append, cntB_cons, cntB_nil, Nat.add_zero, Nat.zero_add]; try ac_rfl))) (by omega) hl0).mono fun r w2 ⟨m, h1, h2, h3⟩ => ⟨m, h1, h2, hw.owns.keep h3⟩) (fun m hm => ?_)
    have hsome := nextO_of (IsNext.of_sort hm)
    refine J.perm ((b4, cb (cI zI) 23) :: (b2, cb (cI self) 23) :: ls) (by (refine perm_cnt (fun _ => ?_)); simp only [cntB_append, cntB_cons, cntB_nil, Nat.add_zero, Nat.zero_add]; try ac_rfl) ?_
    refine J.storeW (cs := cI zI) (vs := cI m) Ty.s23 rfl rfl rfl rfl rfl (by simp [Value.oneCell']) .here ?_
    refine J.assign rfl rfl ?_
    refine J.nil ?_
    refine JX.thenN (hK5 _ _ ?_)
    refine JC.ret ?_
    refine JX.retCT rfl rfl rfl Ty.a23 Ty.s23 (vs := cI m) rfl (fun w1 hw => Cells.of_block (hw.own _ (.head _)) rfl) (fun w1 hw => ?_)
    exact ⟨by rw [hsome]; rfl, (hw.drop (List.nil_sublist _)).below⟩

end Go.Proofs.Ytdpbgmbicdgdbaa
