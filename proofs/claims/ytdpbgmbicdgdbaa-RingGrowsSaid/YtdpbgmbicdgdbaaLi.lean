/-
  Identities that come in; RingNexts: the walk.
-/
import Derived.Test.YtdpbgmbicdgdbaaLh
import Derived.Test.YtdpbgmbicdgdbaaRa
namespace Go.Proofs.Ytdpbgmbicdgdbaa
open Go.J Go.RowKit
set_option linter.unusedVariables false
set_option linter.unusedSimpArgs false
set_option maxRecDepth 4000
def RId : World → List Value → IDV → Prop := fun _ cs a => cs = cI a
theorem dec_id : Decodes Try.prog 23 RId := by
  intro H enc w fuel cs x h hn
  obtain ⟨bs, hl, rfl⟩ := dec_bytes Ty.ar23 Ty.u5 Ty.s5 Ty.s23 H enc w fuel cs x h hn
  obtain ⟨a, ha⟩ := list16 bs hl
  exact ⟨a, by rw [ha]; rfl⟩
theorem fI_cell {xs : List IDV} {i r : Nat} {a : IDV} (h : xs[i]? = some a) (hr : r < 16) : (fI xs)[i * 16 + r]? = (cI a)[r]? := by
  rw [← fI_at h, List.getElem?_take_of_lt hr, List.getElem?_drop]
theorem RSl.rowId {W : World} {by_ : Nat} {s : Sl IDV} {cs : List Value} (h : RSl 16 by_ RId W cs s) : Row W s.v s.xs.length (fI s.xs) := by
  obtain ⟨_, h1, _, h2⟩ := h
  refine ⟨s.a, s.c, rfl, h1, ?_⟩
  rcases h2 with h2 | ⟨b, o, ha, h2⟩
  · left; rw [h2]; rfl
  · right
    refine ⟨b, o, ha, fun j hj => ?_⟩
    rw [fI_length] at hj
    have hi : j / 16 < s.xs.length := by omega
    obtain ⟨cs', hl, hc, hr⟩ := h2 (j / 16) s.xs[j / 16] (List.getElem?_eq_getElem hi)
    have hr' : cs' = cI s.xs[j / 16] := hr
    subst hr'
    have := hc (j % 16) (by omega)
    rw [show o + j = o + j / 16 * 16 + j % 16 by omega, this, ← fI_cell (List.getElem?_eq_getElem hi) (by omega), show j / 16 * 16 + j % 16 = j by omega]
theorem RSl.len {W : World} {sz by_ : Nat} {α : Type} {R : World → List Value → α → Prop} {s : Sl α} {cs : List Value} (h : RSl sz by_ R W cs s) (hb : 0 < by_) : s.xs.length ≤ reachBytes := by
  obtain ⟨_, h1, h2, _⟩ := h
  have := Nat.le_mul_of_pos_right s.c hb
  omega

theorem nexts_spec (self : IDV) (v : Value) (xs : List IDV) (w : World) (hr : Row w v xs.length (fI xs)) :
    Calls Try.prog 4 [.agg (cI self).toArray, v].toArray w fun r w' => r = .returned (.bool true) ∧ Bel w w' := by
  refine calls_of_J (args := [.agg (cI self).toArray, v]) (e := [(0, .agg (cI self).toArray), (1, v)]) Try.func4 rfl rfl ⟨rfl, rfl, trivial⟩ (St.start w) ?_
  refine JC.seq (fun K0 hK0 => ?_)
  refine JC.region ?_
  refine J.box rfl rfl rfl (fun b2 => ?_)
  refine J.assign rfl rfl ?_
  refine J.nil ?_
  refine JX.thenN (hK0 _ _ ?_)
  refine JC.seq (fun K1 hK1 => ?_)
  refine JC.region ?_
  refine J.move rfl rfl ?_
  refine J.callB (v := cutV v (min xs.length 60)) (fun w1 w2 hw hb => hw.step hb) Ty.bd14 rfl rfl (fun w1 hw => cut_spec v xs 60 w1 (hr.below (hw.drop (List.nil_sublist _)).below)) ?_
  have hr2 := row_cut hr 60
  have hyl : (xs.take 60).length ≤ 60 := by rw [List.length_take]; omega
  generalize cutV v (min xs.length 60) = v2 at hr2 ⊢
  generalize xs.take 60 = ys at hr2 hyl ⊢
  obtain ⟨a2, c2, rfl, hc2, _⟩ := id hr2
  refine J.assign rfl rfl ?_
  refine J.nil ?_
  refine JX.thenN (hK1 _ _ ?_)
  refine JC.seq (fun K2 hK2 => ?_)
  refine JC.region ?_
  (first | refine J.loadOA (vs := cI self) Ty.a23 Ty.s23 rfl (.head _) rfl rfl rfl ?_ | refine J.loadOA (vs := cI self) Ty.a23 Ty.s23 rfl (.tail _ (.head _)) rfl rfl rfl ?_ | refine J.loadOA (vs := cI self) Ty.a23 Ty.s23 rfl (.tail _ (.tail _ (.head _))) rfl rfl rfl ?_ | refine J.loadOA (vs := cI self) Ty.a23 Ty.s23 rfl (.tail _ (.tail _ (.tail _ (.head _)))) rfl rfl rfl ?_ | refine J.loadOA (vs := cI self) Ty.a23 Ty.s23 rfl (.tail _ (.tail _ (.tail _ (.tail _ (.head _))))) rfl rfl rfl ?_ | refine J.loadOA (vs := cI self) Ty.a23 Ty.s23 rfl (.tail _ (.tail _ (.tail _ (.tail _ (.tail _ (.head _)))))) rfl rfl rfl ?_ | refine J.loadOA (vs := cI self) Ty.a23 Ty.s23 rfl (.tail _ (.tail _ (.tail _ (.tail _ (.tail _ (.tail _ (.head _))))))) rfl rfl rfl ?_ | refine J.loadOA (vs := cI self) Ty.a23 Ty.s23 rfl (.tail _ (.tail _ (.tail _ (.tail _ (.tail _ (.tail _ (.tail _ (.head _)))))))) rfl rfl rfl ?_ | refine J.loadOA (vs := cI self) Ty.a23 Ty.s23 rfl (.tail _ (.tail _ (.tail _ (.tail _ (.tail _ (.tail _ (.tail _ (.tail _ (.head _))))))))) rfl rfl rfl ?_ | refine J.loadOA (vs := cI self) Ty.a23 Ty.s23 rfl (.tail _ (.tail _ (.tail _ (.tail _ (.tail _ (.tail _ (.tail _ (.tail _ (.tail _ (.head _)))))))))) rfl rfl rfl ?_ | refine J.loadOA (vs := cI self) Ty.a23 Ty.s23 rfl (.tail _ (.tail _ (.tail _ (.tail _ (.tail _ (.tail _ (.tail _ (.tail _ (.tail _ (.tail _ (.head _))))))))))) rfl rfl rfl ?_ | refine J.loadOA (vs := cI self) Ty.a23 Ty.s23 rfl (.tail _ (.tail _ (.tail _ (.tail _ (.tail _ (.tail _ (.tail _ (.tail _ (.tail _ (.tail _ (.tail _ (.head _)))))))))))) rfl rfl rfl ?_ | refine J.loadOA (vs := cI self) Ty.a23 Ty.s23 rfl (List.mem_append_right _ (.head _)) rfl rfl rfl ?_ | refine J.loadOA (vs := cI self) Ty.a23 Ty.s23 rfl (List.mem_append_right _ (.tail _ (.head _))) rfl rfl rfl ?_ | refine J.loadOA (vs := cI self) Ty.a23 Ty.s23 rfl (List.mem_append_right _ (.tail _ (.tail _ (.head _)))) rfl rfl rfl ?_ | refine J.loadOA (vs := cI self) Ty.a23 Ty.s23 rfl (List.mem_append_right _ (.tail _ (.tail _ (.tail _ (.head _))))) rfl rfl rfl ?_ | refine J.loadOA (vs := cI self) Ty.a23 Ty.s23 rfl (List.mem_append_right _ (.tail _ (.tail _ (.tail _ (.tail _ (.head _)))))) rfl rfl rfl ?_ | refine J.loadOA (vs := cI self) Ty.a23 Ty.s23 rfl (List.mem_append_right _ (.tail _ (.tail _ (.tail _ (.tail _ (.tail _ (.head _))))))) rfl rfl rfl ?_ | refine J.loadOA (vs := cI self) Ty.a23 Ty.s23 rfl (List.mem_append_right _ (.tail _ (.tail _ (.tail _ (.tail _ (.tail _ (.tail _ (.head _)))))))) rfl rfl rfl ?_ | refine J.loadOA (vs := cI self) Ty.a23 Ty.s23 rfl (List.mem_append_right _ (.tail _ (.tail _ (.tail _ (.tail _ (.tail _ (.tail _ (.tail _ (.head _))))))))) rfl rfl rfl ?_ | refine J.loadOA (vs := cI self) Ty.a23 Ty.s23 rfl (List.mem_append_right _ (.tail _ (.tail _ (.tail _ (.tail _ (.tail _ (.tail _ (.tail _ (.tail _ (.head _)))))))))) rfl rfl rfl ?_ | refine J.loadOA (vs := cI self) Ty.a23 Ty.s23 rfl (List.mem_append_right _ (.tail _ (.tail _ (.tail _ (.tail _ (.tail _ (.tail _ (.tail _ (.tail _ (.tail _ (.head _))))))))))) rfl rfl rfl ?_ | refine J.loadOA (vs := cI self) Ty.a23 Ty.s23 rfl (List.mem_append_right _ (.tail _ (.tail _ (.tail _ (.tail _ (.tail _ (.tail _ (.tail _ (.tail _ (.tail _ (.tail _ (.head _)))))))))))) rfl rfl rfl ?_ | refine J.loadOA (vs := cI self) Ty.a23 Ty.s23 rfl (List.mem_append_right _ (.tail _ (.tail _ (.tail _ (.tail _ (.tail _ (.tail _ (.tail _ (.tail _ (.tail _ (.tail _ (.tail _ (.head _))))))))))))) rfl rfl rfl ?_)
  refine J.move rfl rfl ?_
  refine J.callB (v := .tuple #[.agg (cI ((nextO self ys).getD zI)).toArray, .bool (nextO self ys).isSome]) (fun w1 w2 hw hb => hw.step hb) Ty.bd22 rfl rfl (fun w1 hw => next_spec self _ ys w1 (hr2.below (hw.drop (List.nil_sublist _)).below) (by omega)) ?_
  refine J.move rfl rfl ?_
  refine J.extract rfl rfl rfl ?_
  refine J.extract rfl rfl rfl ?_
  refine J.alloc Ty.zID rfl rfl (fun b5 => ?_)
  refine J.storeW (cs := cI zI) (vs := cI ((nextO self ys).getD zI)) Ty.s23 rfl rfl rfl rfl rfl (by simp [Value.oneCell']) .here ?_
  refine J.assign rfl rfl ?_
  refine J.nil ?_
  refine JX.thenN (hK2 _ _ ?_)
  refine JC.seq (fun K3 hK3 => ?_)
  refine JC.region ?_
  (first | refine J.loadOA (vs := cI self) Ty.a23 Ty.s23 rfl (.head _) rfl rfl rfl ?_ | refine J.loadOA (vs := cI self) Ty.a23 Ty.s23 rfl (.tail _ (.head _)) rfl rfl rfl ?_ | refine J.loadOA (vs := cI self) Ty.a23 Ty.s23 rfl (.tail _ (.tail _ (.head _))) rfl rfl rfl ?_ | refine J.loadOA (vs := cI self) Ty.a23 Ty.s23 rfl (.tail _ (.tail _ (.tail _ (.head _)))) rfl rfl rfl ?_ | refine J.loadOA (vs := cI self) Ty.a23 Ty.s23 rfl (.tail _ (.tail _ (.tail _ (.tail _ (.head _))))) rfl rfl rfl ?_ | refine J.loadOA (vs := cI self) Ty.a23 Ty.s23 rfl (.tail _ (.tail _ (.tail _ (.tail _ (.tail _ (.head _)))))) rfl rfl rfl ?_ | refine J.loadOA (vs := cI self) Ty.a23 Ty.s23 rfl (.tail _ (.tail _ (.tail _ (.tail _ (.tail _ (.tail _ (.head _))))))) rfl rfl rfl ?_ | refine J.loadOA (vs := cI self) Ty.a23 Ty.s23 rfl (.tail _ (.tail _ (.tail _ (.tail _ (.tail _ (.tail _ (.tail _ (.head _)))))))) rfl rfl rfl ?_ | refine J.loadOA (vs := cI self) Ty.a23 Ty.s23 rfl (.tail _ (.tail _ (.tail _ (.tail _ (.tail _ (.tail _ (.tail _ (.tail _ (.head _))))))))) rfl rfl rfl ?_ | refine J.loadOA (vs := cI self) Ty.a23 Ty.s23 rfl (.tail _ (.tail _ (.tail _ (.tail _ (.tail _ (.tail _ (.tail _ (.tail _ (.tail _ (.head _)))))))))) rfl rfl rfl ?_ | refine J.loadOA (vs := cI self) Ty.a23 Ty.s23 rfl (.tail _ (.tail _ (.tail _ (.tail _ (.tail _ (.tail _ (.tail _ (.tail _ (.tail _ (.tail _ (.head _))))))))))) rfl rfl rfl ?_ | refine J.loadOA (vs := cI self) Ty.a23 Ty.s23 rfl (.tail _ (.tail _ (.tail _ (.tail _ (.tail _ (.tail _ (.tail _ (.tail _ (.tail _ (.tail _ (.tail _ (.head _)))))))))))) rfl rfl rfl ?_ | refine J.loadOA (vs := cI self) Ty.a23 Ty.s23 rfl (List.mem_append_right _ (.head _)) rfl rfl rfl ?_ | refine J.loadOA (vs := cI self) Ty.a23 Ty.s23 rfl (List.mem_append_right _ (.tail _ (.head _))) rfl rfl rfl ?_ | refine J.loadOA (vs := cI self) Ty.a23 Ty.s23 rfl (List.mem_append_right _ (.tail _ (.tail _ (.head _)))) rfl rfl rfl ?_ | refine J.loadOA (vs := cI self) Ty.a23 Ty.s23 rfl (List.mem_append_right _ (.tail _ (.tail _ (.tail _ (.head _))))) rfl rfl rfl ?_ | refine J.loadOA (vs := cI self) Ty.a23 Ty.s23 rfl (List.mem_append_right _ (.tail _ (.tail _ (.tail _ (.tail _ (.head _)))))) rfl rfl rfl ?_ | refine J.loadOA (vs := cI self) Ty.a23 Ty.s23 rfl (List.mem_append_right _ (.tail _ (.tail _ (.tail _ (.tail _ (.tail _ (.head _))))))) rfl rfl rfl ?_ | refine J.loadOA (vs := cI self) Ty.a23 Ty.s23 rfl (List.mem_append_right _ (.tail _ (.tail _ (.tail _ (.tail _ (.tail _ (.tail _ (.head _)))))))) rfl rfl rfl ?_ | refine J.loadOA (vs := cI self) Ty.a23 Ty.s23 rfl (List.mem_append_right _ (.tail _ (.tail _ (.tail _ (.tail _ (.tail _ (.tail _ (.tail _ (.head _))))))))) rfl rfl rfl ?_ | refine J.loadOA (vs := cI self) Ty.a23 Ty.s23 rfl (List.mem_append_right _ (.tail _ (.tail _ (.tail _ (.tail _ (.tail _ (.tail _ (.tail _ (.tail _ (.head _)))))))))) rfl rfl rfl ?_ | refine J.loadOA (vs := cI self) Ty.a23 Ty.s23 rfl (List.mem_append_right _ (.tail _ (.tail _ (.tail _ (.tail _ (.tail _ (.tail _ (.tail _ (.tail _ (.tail _ (.head _))))))))))) rfl rfl rfl ?_ | refine J.loadOA (vs := cI self) Ty.a23 Ty.s23 rfl (List.mem_append_right _ (.tail _ (.tail _ (.tail _ (.tail _ (.tail _ (.tail _ (.tail _ (.tail _ (.tail _ (.tail _ (.head _)))))))))))) rfl rfl rfl ?_ | refine J.loadOA (vs := cI self) Ty.a23 Ty.s23 rfl (List.mem_append_right _ (.tail _ (.tail _ (.tail _ (.tail _ (.tail _ (.tail _ (.tail _ (.tail _ (.tail _ (.tail _ (.tail _ (.head _))))))))))))) rfl rfl rfl ?_)
  refine J.move rfl rfl ?_
  refine J.callB (v := .tuple #[.agg (cI ((nextO self ys).getD zI)).toArray, .bool (nextO self ys).isSome]) (fun w1 w2 hw hb => hw.step hb) Ty.bd23 rfl rfl (fun w1 hw => rnext_spec self _ ys w1 (hr2.below (hw.drop (List.nil_sublist _)).below) (by omega)) ?_
  refine J.move rfl rfl ?_
  refine J.extract rfl rfl rfl ?_
  refine J.extract rfl rfl rfl ?_
  refine J.alloc Ty.zID rfl rfl (fun b7 => ?_)
  refine J.storeW (cs := cI zI) (vs := cI ((nextO self ys).getD zI)) Ty.s23 rfl rfl rfl rfl rfl (by simp [Value.oneCell']) .here ?_
  refine J.assign rfl rfl ?_
  refine J.nil ?_
  refine JX.thenN (hK3 _ _ ?_)
  refine JC.seq (fun K4 hK4 => ?_)
  apply JC.drawL 20 [Eqv (.bool true), Eqv (.bool true), Eqv (.agg (cI ((nextO self ys).getD zI)).toArray), Eqv (.agg (cI ((nextO self ys).getD zI)).toArray), Eqv (.bool true), Eqv (.bool true), Eqv (.bool true), Eqv (.bool (nextO self ys).isSome), Eqv (.bool (nextO self ys).isSome), Eqv (.bool true), Eqv (.bool true), Eqv (.bool true), Eqv (.slice a2 ys.length c2), Eqv (.agg (cI self).toArray), Eqv (.bool (decide (self ∈ ys))), Eqv (.slice a2 ys.length c2), Eqv (.agg (cI self).toArray), Eqv (.bool (decide (self ∈ ys))), Eqv (.bool true), Eqv (.bool true)] Ty.mixed rfl rfl rfl (by kernel_rfl) rfl rfl (fun w w' hw hb => hw.step hb) ⟨fun _ _ _ h _ => h, fun _ _ _ h _ => h, fun _ _ _ h _ => h, fun _ _ _ h _ => h, fun _ _ _ h _ => h, fun _ _ _ h _ => h, fun _ _ _ h _ => h, fun _ _ _ h _ => h, fun _ _ _ h _ => h, fun _ _ _ h _ => h, fun _ _ _ h _ => h, fun _ _ _ h _ => h, fun _ _ _ h _ => h, fun _ _ _ h _ => h, fun _ _ _ h _ => h, fun _ _ _ h _ => h, fun _ _ _ h _ => h, fun _ _ _ h _ => h, fun _ _ _ h _ => h, fun _ _ _ h _ => h, trivial⟩ ?hstep ?htail
  case hstep =>
    refine ⟨fun wi => ?_, fun wi => ?_, fun wi => ?_, fun wi => ?_, fun wi => ?_, fun wi => ?_, fun wi => ?_, fun wi => ?_, fun wi => ?_, fun wi => ?_, fun wi => ?_, fun wi => ?_, fun wi => ?_, fun wi => ?_, fun wi => ?_, fun wi => ?_, fun wi => ?_, fun wi => ?_, fun wi => ?_, fun wi => ?_, trivial⟩
    · skip
      refine Fin.nil ?_
      refine J.callD (v := .bool true) Ty.bd18 rfl rfl (fun w1 hw => fixed10_spec w1) ?_
      refine J.nil (JX.fin rfl (fun w hw => ⟨rfl, hw⟩))
    · skip
      refine Fin.cons (fun v4_0 => ?_)
      refine Fin.cons (fun v4_0 => ?_)
      refine Fin.nil ?_
      refine J.prE (fun h => ?_); subst h
      refine J.prE (fun h => ?_); subst h
      refine J.move rfl rfl ?_
      refine J.nil (JX.fin rfl (fun w hw => ⟨rfl, (by rw [hw.1]; exact Bel.refl _)⟩))
    · skip
      refine Fin.cons (fun v4_1 => ?_)
      refine Fin.nil ?_
      refine J.prE (fun h => ?_); subst h
      refine J.unguard rfl rfl rfl ?_
      refine J.loadA (vs := cI ((nextO self ys).getD zI)) Ty.a23 Ty.s23 rfl rfl (fun w1 hw => Cells.of_block (hw.2.own _ (.tail _ (.head _))) rfl) rfl ?_
      refine J.nil (JX.fin rfl (fun w hw => ⟨rfl, (by rw [hw.1]; exact Bel.refl _)⟩))
    · skip
      refine Fin.cons (fun v4_1 => ?_)
      refine Fin.nil ?_
      refine J.prE (fun h => ?_); subst h
      refine J.unguard rfl rfl rfl ?_
      refine J.loadA (vs := cI ((nextO self ys).getD zI)) Ty.a23 Ty.s23 rfl rfl (fun w1 hw => Cells.of_block (hw.2.own _ (.head _)) rfl) rfl ?_
      refine J.nil (JX.fin rfl (fun w hw => ⟨rfl, (by rw [hw.1]; exact Bel.refl _)⟩))
    · skip
      refine Fin.cons (fun v4_2 => ?_)
      refine Fin.cons (fun v4_3 => ?_)
      refine Fin.cons (fun v4_1 => ?_)
      refine Fin.nil ?_
      refine J.prE (fun h => ?_); subst h
      refine J.prE (fun h => ?_); subst h
      refine J.prE (fun h => ?_); subst h
      refine J.unguard rfl rfl rfl ?_
      refine J.eqI Ty.QI Ty.keyI rfl rfl rfl ?_
      refine J.name 27 rfl (show _ = Value.bool true by simp) ?_
      refine J.nil (JX.fin rfl (fun w hw => ⟨rfl, (by rw [hw.1]; exact Bel.refl _)⟩))
    · skip
      refine Fin.cons (fun v4_1 => ?_)
      refine Fin.cons (fun v4_4 => ?_)
      refine Fin.nil ?_
      refine J.prE (fun h => ?_); subst h
      refine J.prE (fun h => ?_); subst h
      (first | refine J.pickT rfl rfl rfl ?_ | refine J.pickF rfl rfl rfl ?_)
      refine J.nil (JX.fin rfl (fun w hw => ⟨rfl, (by rw [hw.1]; exact Bel.refl _)⟩))
    · skip
      refine Fin.cons (fun v4_5 => ?_)
      refine Fin.cons (fun v4_1 => ?_)
      refine Fin.nil ?_
      refine J.prE (fun h => ?_); subst h
      refine J.prE (fun h => ?_); subst h
      refine J.move rfl rfl ?_
      refine J.nil (JX.fin rfl (fun w hw => ⟨rfl, (by rw [hw.1]; exact Bel.refl _)⟩))
    · skip
      refine Fin.cons (fun v4_6 => ?_)
      refine Fin.nil ?_
      refine J.prE (fun h => ?_); subst h
      first
        | (refine J.skip rfl rfl rfl rfl rfl ?_)
        | (refine J.skipU rfl rfl rfl rfl ?_)
        | (refine J.unguard rfl rfl rfl ?_; refine J.move rfl rfl ?_)
      refine J.nil (JX.fin rfl (fun w hw => ⟨rfl, (by rw [hw.1]; exact Bel.refl _)⟩))
    · skip
      refine Fin.cons (fun v4_6 => ?_)
      refine Fin.nil ?_
      refine J.prE (fun h => ?_); subst h
      first
        | (refine J.skip rfl rfl rfl rfl rfl ?_)
        | (refine J.skipU rfl rfl rfl rfl ?_)
        | (refine J.unguard rfl rfl rfl ?_; refine J.move rfl rfl ?_)
      refine J.nil (JX.fin rfl (fun w hw => ⟨rfl, (by rw [hw.1]; exact Bel.refl _)⟩))
    · skip
      refine Fin.cons (fun v4_7 => ?_)
      refine Fin.cons (fun v4_8 => ?_)
      refine Fin.cons (fun v4_6 => ?_)
      refine Fin.nil ?_
      refine J.prE (fun h => ?_); subst h
      refine J.prE (fun h => ?_); subst h
      refine J.prE (fun h => ?_); subst h
      refine J.unguard rfl rfl rfl ?_
      refine J.eqBool (.inl rfl) Ty.u4 rfl rfl rfl ?_
      refine J.name 32 rfl (show _ = Value.bool true by simp) ?_
      refine J.nil (JX.fin rfl (fun w hw => ⟨rfl, (by rw [hw.1]; exact Bel.refl _)⟩))
    · skip
      refine Fin.cons (fun v4_6 => ?_)
      refine Fin.cons (fun v4_9 => ?_)
      refine Fin.nil ?_
      refine J.prE (fun h => ?_); subst h
      refine J.prE (fun h => ?_); subst h
      (first | refine J.pickT rfl rfl rfl ?_ | refine J.pickF rfl rfl rfl ?_)
      refine J.nil (JX.fin rfl (fun w hw => ⟨rfl, (by rw [hw.1]; exact Bel.refl _)⟩))
    · skip
      refine Fin.cons (fun v4_10 => ?_)
      refine Fin.cons (fun v4_6 => ?_)
      refine Fin.nil ?_
      refine J.prE (fun h => ?_); subst h
      refine J.prE (fun h => ?_); subst h
      refine J.move rfl rfl ?_
      refine J.nil (JX.fin rfl (fun w hw => ⟨rfl, (by rw [hw.1]; exact Bel.refl _)⟩))
    · skip
      refine Fin.cons (fun v4_11 => ?_)
      refine Fin.nil ?_
      refine J.prE (fun h => ?_); subst h
      first
        | (refine J.skip rfl rfl rfl rfl rfl ?_)
        | (refine J.skipU rfl rfl rfl rfl ?_)
        | (refine J.unguard rfl rfl rfl ?_; refine J.move rfl rfl ?_)
      refine J.nil (JX.fin rfl (fun w hw => ⟨rfl, (by rw [hw.1]; exact Bel.refl _)⟩))
    · skip
      refine Fin.cons (fun v4_11 => ?_)
      refine Fin.nil ?_
      refine J.prE (fun h => ?_); subst h
      refine J.unguard rfl rfl rfl ?_
      refine J.loadA (vs := cI self) Ty.a23 Ty.s23 rfl rfl (fun w1 hw => Cells.of_block (hw.2.own _ (.tail _ (.tail _ (.head _)))) rfl) rfl ?_
      refine J.nil (JX.fin rfl (fun w hw => ⟨rfl, (by rw [hw.1]; exact Bel.refl _)⟩))
    · skip
      refine Fin.cons (fun v4_12 => ?_)
      refine Fin.cons (fun v4_13 => ?_)
      refine Fin.cons (fun v4_11 => ?_)
      refine Fin.cons (fun v4_11 => ?_)
      refine Fin.nil ?_
      refine J.prE (fun h => ?_); subst h
      refine J.prE (fun h => ?_); subst h
      refine J.prE (fun h => ?_); subst h
      refine J.prE (fun h => ?_); subst h
      refine J.unguard rfl rfl rfl ?_
      refine J.callD (v := .bool (decide (self ∈ ys))) Ty.bd24 rfl rfl (fun w1 hw => has_spec _ ys self w1 (hr2.below (hw.drop (List.nil_sublist _)).below) (by omega)) ?_
      refine J.nil (JX.fin rfl (fun w hw => ⟨rfl, hw⟩))
    · skip
      refine Fin.cons (fun v4_11 => ?_)
      refine Fin.nil ?_
      refine J.prE (fun h => ?_); subst h
      first
        | (refine J.skip rfl rfl rfl rfl rfl ?_)
        | (refine J.skipU rfl rfl rfl rfl ?_)
        | (refine J.unguard rfl rfl rfl ?_; refine J.move rfl rfl ?_)
      refine J.nil (JX.fin rfl (fun w hw => ⟨rfl, (by rw [hw.1]; exact Bel.refl _)⟩))
    · skip
      refine Fin.cons (fun v4_11 => ?_)
      refine Fin.nil ?_
      refine J.prE (fun h => ?_); subst h
      refine J.unguard rfl rfl rfl ?_
      refine J.loadA (vs := cI self) Ty.a23 Ty.s23 rfl rfl (fun w1 hw => Cells.of_block (hw.2.own _ (.tail _ (.tail _ (.head _)))) rfl) rfl ?_
      refine J.nil (JX.fin rfl (fun w hw => ⟨rfl, (by rw [hw.1]; exact Bel.refl _)⟩))
    · skip
      refine Fin.cons (fun v4_15 => ?_)
      refine Fin.cons (fun v4_16 => ?_)
      refine Fin.cons (fun v4_14 => ?_)
      refine Fin.cons (fun v4_11 => ?_)
      refine Fin.nil ?_
      refine J.prE (fun h => ?_); subst h
      refine J.prE (fun h => ?_); subst h
      refine J.prE (fun h => ?_); subst h
      refine J.prE (fun h => ?_); subst h
      refine J.unguard rfl rfl rfl ?_
      refine J.callD (v := .bool (decide (self ∈ ys))) Ty.bd25 rfl rfl (fun w1 hw => rhas_spec _ ys self w1 (hr2.below (hw.drop (List.nil_sublist _)).below) (by omega)) ?_
      refine J.nil (JX.fin rfl (fun w hw => ⟨rfl, hw⟩))
    · skip
      refine Fin.cons (fun v4_14 => ?_)
      refine Fin.cons (fun v4_17 => ?_)
      refine Fin.cons (fun v4_11 => ?_)
      refine Fin.nil ?_
      refine J.prE (fun h => ?_); subst h
      refine J.prE (fun h => ?_); subst h
      refine J.prE (fun h => ?_); subst h
      refine J.unguard rfl rfl rfl ?_
      refine J.eqBool (.inl rfl) Ty.u4 rfl rfl rfl ?_
      refine J.name 41 rfl (show _ = Value.bool true by simp) ?_
      refine J.nil (JX.fin rfl (fun w hw => ⟨rfl, (by rw [hw.1]; exact Bel.refl _)⟩))
    · skip
      refine Fin.cons (fun v4_11 => ?_)
      refine Fin.cons (fun v4_18 => ?_)
      refine Fin.nil ?_
      refine J.prE (fun h => ?_); subst h
      refine J.prE (fun h => ?_); subst h
      (first | refine J.pickT rfl rfl rfl ?_ | refine J.pickF rfl rfl rfl ?_)
      refine J.nil (JX.fin rfl (fun w hw => ⟨rfl, (by rw [hw.1]; exact Bel.refl _)⟩))
  case htail =>
    refine Fin.cons (fun v4_0 => ?_)
    refine Fin.cons (fun v4_1 => ?_)
    refine Fin.cons (fun v4_2 => ?_)
    refine Fin.cons (fun v4_3 => ?_)
    refine Fin.cons (fun v4_4 => ?_)
    refine Fin.cons (fun v4_5 => ?_)
    refine Fin.cons (fun v4_6 => ?_)
    refine Fin.cons (fun v4_7 => ?_)
    refine Fin.cons (fun v4_8 => ?_)
    refine Fin.cons (fun v4_9 => ?_)
    refine Fin.cons (fun v4_10 => ?_)
    refine Fin.cons (fun v4_11 => ?_)
    refine Fin.cons (fun v4_12 => ?_)
    refine Fin.cons (fun v4_13 => ?_)
    refine Fin.cons (fun v4_14 => ?_)
    refine Fin.cons (fun v4_15 => ?_)
    refine Fin.cons (fun v4_16 => ?_)
    refine Fin.cons (fun v4_17 => ?_)
    refine Fin.cons (fun v4_18 => ?_)
    refine Fin.cons (fun v4_19 => ?_)
    refine Fin.nil ?_
    refine J.prE (fun h => ?_); subst h
    refine J.prE (fun h => ?_); subst h
    refine J.prE (fun h => ?_); subst h
    refine J.prE (fun h => ?_); subst h
    refine J.prE (fun h => ?_); subst h
    refine J.prE (fun h => ?_); subst h
    refine J.prE (fun h => ?_); subst h
    refine J.prE (fun h => ?_); subst h
    refine J.prE (fun h => ?_); subst h
    refine J.prE (fun h => ?_); subst h
    refine J.prE (fun h => ?_); subst h
    refine J.prE (fun h => ?_); subst h
    refine J.prE (fun h => ?_); subst h
    refine J.prE (fun h => ?_); subst h
    refine J.prE (fun h => ?_); subst h
    refine J.prE (fun h => ?_); subst h
    refine J.prE (fun h => ?_); subst h
    refine J.prE (fun h => ?_); subst h
    refine J.prE (fun h => ?_); subst h
    refine J.prE (fun h => ?_); subst h
    refine J.assign rfl rfl ?_
    refine J.nil ?_
    refine JX.thenN (hK4 _ _ ?_)
    refine JC.ret ?_
    refine JX.ret1 rfl rfl (fun w hw => ?_)
    exact ⟨rfl, (hw.drop (List.nil_sublist _)).below⟩

theorem ringNexts_walk (w : World) (c : List Value) (x : IDV) (hx : RId w c x) (o : Sl IDV) (ho : RSl 16 16 RId w [o.v] o) :
    Calls Try.prog 4 [.agg c.toArray, o.v].toArray w fun r w' => r = .returned (.bool true) ∧ Bel w w' := by
  have hx' : c = cI x := hx
  subst hx'
  exact nexts_spec x o.v o.xs w (RSl.rowId ho)
end Go.Proofs.Ytdpbgmbicdgdbaa
