/-
  Entries that come in; TableAsks and TableNil: the walks.
-/
import Derived.Test.YtpldpkdlloolkaaUi
import Derived.Test.YtpldpkdlloolkaaTd
namespace Go.Proofs.Ytpldpkdlloolkaa
open Go.J Go.RowKit
set_option linter.unusedVariables false
set_option linter.unusedSimpArgs false
set_option maxRecDepth 4000
theorem fE_cell {xs : List EV} {i r : Nat} {a : EV} (h : xs[i]? = some a) (hr : r < 51) : (fE xs)[i * 51 + r]? = (cE a)[r]? := by
  rw [← fE_at h, List.getElem?_take_of_lt hr, List.getElem?_drop]
theorem rslE {W : World} {by_ : Nat} {s : Sl EV} {cs : List Value} (h : RSl 51 by_ REnt W cs s) : Row W s.v s.xs.length (fE s.xs) := by
  obtain ⟨_, h1, _, h2⟩ := h
  refine ⟨s.a, s.c, rfl, h1, ?_⟩
  rcases h2 with h2 | ⟨b, o, ha, h2⟩
  · left; rw [h2]; rfl
  · right
    refine ⟨b, o, ha, fun j hj => ?_⟩
    rw [fE_length] at hj
    have hi : j / 51 < s.xs.length := by omega
    obtain ⟨cs', hl, hc, hr⟩ := h2 (j / 51) s.xs[j / 51] (List.getElem?_eq_getElem hi)
    have hr' : cs' = cE s.xs[j / 51] := hr.1
    subst hr'
    have := hc (j % 51) (by show j % 51 < 51; omega)
    rw [show o + j = o + j / 51 * 51 + j % 51 by omega, this, ← fE_cell (List.getElem?_eq_getElem hi) (by omega), show j / 51 * 51 + j % 51 = j by omega]
theorem rslE_ok {W : World} {by_ : Nat} {s : Sl EV} {cs : List Value} (h : RSl 51 by_ REnt W cs s) : ∀ x, x ∈ s.xs → okE x := by
  obtain ⟨_, h1, _, h2⟩ := h
  intro x hx
  rcases h2 with h2 | ⟨b, o, ha, h2⟩
  · rw [h2] at hx; cases hx
  · obtain ⟨i, hi, rfl⟩ := List.getElem_of_mem hx
    obtain ⟨_, _, _, hr⟩ := h2 i s.xs[i] (List.getElem?_eq_getElem hi)
    exact hr.2
theorem rslE_len {W : World} {s : Sl EV} {cs : List Value} (h : RSl 51 72 REnt W cs s) : s.xs.length ≤ 1954687338213 := by
  obtain ⟨_, h1, h2, _⟩ := h
  have h3 : reachBytes = 140737488351232 := rfl
  omega

set_option maxHeartbeats 1000000 in
theorem tableAsks_spec (a b : PV) (xe : EV) (w : World) :
    Calls Try.prog 7 [.agg (cP a).toArray, .agg (cP b).toArray, .agg (cE xe).toArray].toArray w fun r w' => r = .returned (.bool true) ∧ Bel w w' := by
  refine calls_of_J (args := [.agg (cP a).toArray, .agg (cP b).toArray, .agg (cE xe).toArray]) (e := [(0, .agg (cP a).toArray), (1, .agg (cP b).toArray), (2, .agg (cE xe).toArray)]) Try.func7 rfl rfl ⟨rfl, rfl, rfl, trivial⟩ (St.start w) ?_
  refine JC.seq (fun K0 hK0 => ?_)
  refine JC.region ?_
  refine J.box rfl rfl rfl (fun b3 => ?_)
  refine J.box rfl rfl rfl (fun b4 => ?_)
  refine J.box rfl rfl rfl (fun b5 => ?_)
  refine J.assign rfl rfl ?_
  refine J.nil ?_
  refine JX.thenN (hK0 _ _ ?_)
  refine JC.seq (fun K1 hK1 => ?_)
  refine JC.region ?_
  (first | refine J.loadOA (vs := cE xe) Ty.a34 Ty.s34 rfl (.head _) rfl rfl rfl ?_ | refine J.loadOA (vs := cE xe) Ty.a34 Ty.s34 rfl (.tail _ (.head _)) rfl rfl rfl ?_ | refine J.loadOA (vs := cE xe) Ty.a34 Ty.s34 rfl (.tail _ (.tail _ (.head _))) rfl rfl rfl ?_ | refine J.loadOA (vs := cE xe) Ty.a34 Ty.s34 rfl (.tail _ (.tail _ (.tail _ (.head _)))) rfl rfl rfl ?_ | refine J.loadOA (vs := cE xe) Ty.a34 Ty.s34 rfl (.tail _ (.tail _ (.tail _ (.tail _ (.head _))))) rfl rfl rfl ?_ | refine J.loadOA (vs := cE xe) Ty.a34 Ty.s34 rfl (.tail _ (.tail _ (.tail _ (.tail _ (.tail _ (.head _)))))) rfl rfl rfl ?_ | refine J.loadOA (vs := cE xe) Ty.a34 Ty.s34 rfl (.tail _ (.tail _ (.tail _ (.tail _ (.tail _ (.tail _ (.head _))))))) rfl rfl rfl ?_ | refine J.loadOA (vs := cE xe) Ty.a34 Ty.s34 rfl (.tail _ (.tail _ (.tail _ (.tail _ (.tail _ (.tail _ (.tail _ (.head _)))))))) rfl rfl rfl ?_ | refine J.loadOA (vs := cE xe) Ty.a34 Ty.s34 rfl (.tail _ (.tail _ (.tail _ (.tail _ (.tail _ (.tail _ (.tail _ (.tail _ (.head _))))))))) rfl rfl rfl ?_ | refine J.loadOA (vs := cE xe) Ty.a34 Ty.s34 rfl (.tail _ (.tail _ (.tail _ (.tail _ (.tail _ (.tail _ (.tail _ (.tail _ (.tail _ (.head _)))))))))) rfl rfl rfl ?_ | refine J.loadOA (vs := cE xe) Ty.a34 Ty.s34 rfl (.tail _ (.tail _ (.tail _ (.tail _ (.tail _ (.tail _ (.tail _ (.tail _ (.tail _ (.tail _ (.head _))))))))))) rfl rfl rfl ?_ | refine J.loadOA (vs := cE xe) Ty.a34 Ty.s34 rfl (.tail _ (.tail _ (.tail _ (.tail _ (.tail _ (.tail _ (.tail _ (.tail _ (.tail _ (.tail _ (.tail _ (.head _)))))))))))) rfl rfl rfl ?_ | refine J.loadOA (vs := cE xe) Ty.a34 Ty.s34 rfl (List.mem_append_right _ (.head _)) rfl rfl rfl ?_ | refine J.loadOA (vs := cE xe) Ty.a34 Ty.s34 rfl (List.mem_append_right _ (.tail _ (.head _))) rfl rfl rfl ?_ | refine J.loadOA (vs := cE xe) Ty.a34 Ty.s34 rfl (List.mem_append_right _ (.tail _ (.tail _ (.head _)))) rfl rfl rfl ?_ | refine J.loadOA (vs := cE xe) Ty.a34 Ty.s34 rfl (List.mem_append_right _ (.tail _ (.tail _ (.tail _ (.head _))))) rfl rfl rfl ?_ | refine J.loadOA (vs := cE xe) Ty.a34 Ty.s34 rfl (List.mem_append_right _ (.tail _ (.tail _ (.tail _ (.tail _ (.head _)))))) rfl rfl rfl ?_ | refine J.loadOA (vs := cE xe) Ty.a34 Ty.s34 rfl (List.mem_append_right _ (.tail _ (.tail _ (.tail _ (.tail _ (.tail _ (.head _))))))) rfl rfl rfl ?_ | refine J.loadOA (vs := cE xe) Ty.a34 Ty.s34 rfl (List.mem_append_right _ (.tail _ (.tail _ (.tail _ (.tail _ (.tail _ (.tail _ (.head _)))))))) rfl rfl rfl ?_ | refine J.loadOA (vs := cE xe) Ty.a34 Ty.s34 rfl (List.mem_append_right _ (.tail _ (.tail _ (.tail _ (.tail _ (.tail _ (.tail _ (.tail _ (.head _))))))))) rfl rfl rfl ?_ | refine J.loadOA (vs := cE xe) Ty.a34 Ty.s34 rfl (List.mem_append_right _ (.tail _ (.tail _ (.tail _ (.tail _ (.tail _ (.tail _ (.tail _ (.tail _ (.head _)))))))))) rfl rfl rfl ?_ | refine J.loadOA (vs := cE xe) Ty.a34 Ty.s34 rfl (List.mem_append_right _ (.tail _ (.tail _ (.tail _ (.tail _ (.tail _ (.tail _ (.tail _ (.tail _ (.tail _ (.head _))))))))))) rfl rfl rfl ?_ | refine J.loadOA (vs := cE xe) Ty.a34 Ty.s34 rfl (List.mem_append_right _ (.tail _ (.tail _ (.tail _ (.tail _ (.tail _ (.tail _ (.tail _ (.tail _ (.tail _ (.tail _ (.head _)))))))))))) rfl rfl rfl ?_ | refine J.loadOA (vs := cE xe) Ty.a34 Ty.s34 rfl (List.mem_append_right _ (.tail _ (.tail _ (.tail _ (.tail _ (.tail _ (.tail _ (.tail _ (.tail _ (.tail _ (.tail _ (.tail _ (.head _))))))))))))) rfl rfl rfl ?_)
  refine J.callB (v := .tuple #[.agg (cI (otherV xe).1).toArray, .int .i64 (otherV xe).2.1, .bool (otherV xe).2.2]) (fun w1 w2 hw hb => hw.step hb) Ty.bd29 rfl rfl (fun w1 hw => other_spec xe w1) ?_
  refine J.move rfl rfl ?_
  refine J.extract rfl rfl rfl ?_
  refine J.extract rfl rfl rfl ?_
  refine J.extract rfl rfl rfl ?_
  refine J.alloc Ty.zID rfl rfl (fun b7 => ?_)
  refine J.storeW (cs := cI zI) (vs := cI (otherV xe).1) Ty.s23 rfl rfl rfl rfl rfl (one_cI _) .here ?_
  refine J.assign rfl rfl ?_
  refine J.assign rfl rfl ?_
  refine J.nil ?_
  refine JX.thenN (hK1 _ _ ?_)
  refine JC.seq (fun K2 hK2 => ?_)
  refine JC.region ?_
  (first | refine J.loadOA (vs := cE xe) Ty.a34 Ty.s34 rfl (.head _) rfl rfl rfl ?_ | refine J.loadOA (vs := cE xe) Ty.a34 Ty.s34 rfl (.tail _ (.head _)) rfl rfl rfl ?_ | refine J.loadOA (vs := cE xe) Ty.a34 Ty.s34 rfl (.tail _ (.tail _ (.head _))) rfl rfl rfl ?_ | refine J.loadOA (vs := cE xe) Ty.a34 Ty.s34 rfl (.tail _ (.tail _ (.tail _ (.head _)))) rfl rfl rfl ?_ | refine J.loadOA (vs := cE xe) Ty.a34 Ty.s34 rfl (.tail _ (.tail _ (.tail _ (.tail _ (.head _))))) rfl rfl rfl ?_ | refine J.loadOA (vs := cE xe) Ty.a34 Ty.s34 rfl (.tail _ (.tail _ (.tail _ (.tail _ (.tail _ (.head _)))))) rfl rfl rfl ?_ | refine J.loadOA (vs := cE xe) Ty.a34 Ty.s34 rfl (.tail _ (.tail _ (.tail _ (.tail _ (.tail _ (.tail _ (.head _))))))) rfl rfl rfl ?_ | refine J.loadOA (vs := cE xe) Ty.a34 Ty.s34 rfl (.tail _ (.tail _ (.tail _ (.tail _ (.tail _ (.tail _ (.tail _ (.head _)))))))) rfl rfl rfl ?_ | refine J.loadOA (vs := cE xe) Ty.a34 Ty.s34 rfl (.tail _ (.tail _ (.tail _ (.tail _ (.tail _ (.tail _ (.tail _ (.tail _ (.head _))))))))) rfl rfl rfl ?_ | refine J.loadOA (vs := cE xe) Ty.a34 Ty.s34 rfl (.tail _ (.tail _ (.tail _ (.tail _ (.tail _ (.tail _ (.tail _ (.tail _ (.tail _ (.head _)))))))))) rfl rfl rfl ?_ | refine J.loadOA (vs := cE xe) Ty.a34 Ty.s34 rfl (.tail _ (.tail _ (.tail _ (.tail _ (.tail _ (.tail _ (.tail _ (.tail _ (.tail _ (.tail _ (.head _))))))))))) rfl rfl rfl ?_ | refine J.loadOA (vs := cE xe) Ty.a34 Ty.s34 rfl (.tail _ (.tail _ (.tail _ (.tail _ (.tail _ (.tail _ (.tail _ (.tail _ (.tail _ (.tail _ (.tail _ (.head _)))))))))))) rfl rfl rfl ?_ | refine J.loadOA (vs := cE xe) Ty.a34 Ty.s34 rfl (List.mem_append_right _ (.head _)) rfl rfl rfl ?_ | refine J.loadOA (vs := cE xe) Ty.a34 Ty.s34 rfl (List.mem_append_right _ (.tail _ (.head _))) rfl rfl rfl ?_ | refine J.loadOA (vs := cE xe) Ty.a34 Ty.s34 rfl (List.mem_append_right _ (.tail _ (.tail _ (.head _)))) rfl rfl rfl ?_ | refine J.loadOA (vs := cE xe) Ty.a34 Ty.s34 rfl (List.mem_append_right _ (.tail _ (.tail _ (.tail _ (.head _))))) rfl rfl rfl ?_ | refine J.loadOA (vs := cE xe) Ty.a34 Ty.s34 rfl (List.mem_append_right _ (.tail _ (.tail _ (.tail _ (.tail _ (.head _)))))) rfl rfl rfl ?_ | refine J.loadOA (vs := cE xe) Ty.a34 Ty.s34 rfl (List.mem_append_right _ (.tail _ (.tail _ (.tail _ (.tail _ (.tail _ (.head _))))))) rfl rfl rfl ?_ | refine J.loadOA (vs := cE xe) Ty.a34 Ty.s34 rfl (List.mem_append_right _ (.tail _ (.tail _ (.tail _ (.tail _ (.tail _ (.tail _ (.head _)))))))) rfl rfl rfl ?_ | refine J.loadOA (vs := cE xe) Ty.a34 Ty.s34 rfl (List.mem_append_right _ (.tail _ (.tail _ (.tail _ (.tail _ (.tail _ (.tail _ (.tail _ (.head _))))))))) rfl rfl rfl ?_ | refine J.loadOA (vs := cE xe) Ty.a34 Ty.s34 rfl (List.mem_append_right _ (.tail _ (.tail _ (.tail _ (.tail _ (.tail _ (.tail _ (.tail _ (.tail _ (.head _)))))))))) rfl rfl rfl ?_ | refine J.loadOA (vs := cE xe) Ty.a34 Ty.s34 rfl (List.mem_append_right _ (.tail _ (.tail _ (.tail _ (.tail _ (.tail _ (.tail _ (.tail _ (.tail _ (.tail _ (.head _))))))))))) rfl rfl rfl ?_ | refine J.loadOA (vs := cE xe) Ty.a34 Ty.s34 rfl (List.mem_append_right _ (.tail _ (.tail _ (.tail _ (.tail _ (.tail _ (.tail _ (.tail _ (.tail _ (.tail _ (.tail _ (.head _)))))))))))) rfl rfl rfl ?_ | refine J.loadOA (vs := cE xe) Ty.a34 Ty.s34 rfl (List.mem_append_right _ (.tail _ (.tail _ (.tail _ (.tail _ (.tail _ (.tail _ (.tail _ (.tail _ (.tail _ (.tail _ (.tail _ (.head _))))))))))))) rfl rfl rfl ?_)
  refine J.callB (v := .tuple #[.agg (cI (otherV xe).1).toArray, .int .i64 (otherV xe).2.1, .bool (otherV xe).2.2]) (fun w1 w2 hw hb => hw.step hb) Ty.bd30 rfl rfl (fun w1 hw => rother_spec xe w1) ?_
  refine J.move rfl rfl ?_
  refine J.extract rfl rfl rfl ?_
  refine J.extract rfl rfl rfl ?_
  refine J.extract rfl rfl rfl ?_
  refine J.alloc Ty.zID rfl rfl (fun b10 => ?_)
  refine J.storeW (cs := cI zI) (vs := cI (otherV xe).1) Ty.s23 rfl rfl rfl rfl rfl (one_cI _) .here ?_
  refine J.assign rfl rfl ?_
  refine J.assign rfl rfl ?_
  refine J.nil ?_
  refine JX.thenN (hK2 _ _ ?_)
  refine JC.seq (fun K3 hK3 => ?_)
  apply JC.drawL 32 [Eqv (.bool true), Eqv (.bool true), Eqv (.agg (cP a).toArray), Eqv (.agg (cP b).toArray), Eqv (.bool (ltP a b)), Eqv (.agg (cP a).toArray), Eqv (.agg (cP b).toArray), Eqv (.bool (ltP a b)), Eqv (.bool true), Eqv (.bool true), Eqv (.bool true), Eqv (.agg (cE xe).toArray), Eqv (.bool (decide (rightP xe))), Eqv (.agg (cE xe).toArray), Eqv (.bool (decide (rightP xe))), Eqv (.bool true), Eqv (.bool true), Eqv (.bool true), Eqv (.agg (cI (otherV xe).1).toArray), Eqv (.agg (cI (otherV xe).1).toArray), Eqv (.bool true), Eqv (.bool true), Eqv (.bool true), Eqv (.int .i64 (otherV xe).2.1), Eqv (.int .i64 (otherV xe).2.1), Eqv (.bool true), Eqv (.bool true), Eqv (.bool true), Eqv (.bool (otherV xe).2.2), Eqv (.bool (otherV xe).2.2), Eqv (.bool true), Eqv (.bool true)] Ty.mixed rfl rfl rfl (by kernel_rfl) rfl rfl (fun w w' hw hb => hw.step hb) ⟨fun _ _ _ h _ => h, fun _ _ _ h _ => h, fun _ _ _ h _ => h, fun _ _ _ h _ => h, fun _ _ _ h _ => h, fun _ _ _ h _ => h, fun _ _ _ h _ => h, fun _ _ _ h _ => h, fun _ _ _ h _ => h, fun _ _ _ h _ => h, fun _ _ _ h _ => h, fun _ _ _ h _ => h, fun _ _ _ h _ => h, fun _ _ _ h _ => h, fun _ _ _ h _ => h, fun _ _ _ h _ => h, fun _ _ _ h _ => h, fun _ _ _ h _ => h, fun _ _ _ h _ => h, fun _ _ _ h _ => h, fun _ _ _ h _ => h, fun _ _ _ h _ => h, fun _ _ _ h _ => h, fun _ _ _ h _ => h, fun _ _ _ h _ => h, fun _ _ _ h _ => h, fun _ _ _ h _ => h, fun _ _ _ h _ => h, fun _ _ _ h _ => h, fun _ _ _ h _ => h, fun _ _ _ h _ => h, fun _ _ _ h _ => h, trivial⟩ ?hstep ?htail
  case hstep =>
    refine ⟨fun wi => ?_, fun wi => ?_, fun wi => ?_, fun wi => ?_, fun wi => ?_, fun wi => ?_, fun wi => ?_, fun wi => ?_, fun wi => ?_, fun wi => ?_, fun wi => ?_, fun wi => ?_, fun wi => ?_, fun wi => ?_, fun wi => ?_, fun wi => ?_, fun wi => ?_, fun wi => ?_, fun wi => ?_, fun wi => ?_, fun wi => ?_, fun wi => ?_, fun wi => ?_, fun wi => ?_, fun wi => ?_, fun wi => ?_, fun wi => ?_, fun wi => ?_, fun wi => ?_, fun wi => ?_, fun wi => ?_, fun wi => ?_, trivial⟩
    · skip
      refine Fin.nil ?_
      refine J.callD (v := .bool true) Ty.bd24 rfl rfl (fun w1 hw => fixed12_spec w1) ?_
      refine J.nil (JX.fin rfl (fun w hw => ⟨rfl, hw⟩))
    · skip
      refine Fin.cons (fun v3_0 => ?_)
      refine Fin.cons (fun v3_0 => ?_)
      refine Fin.nil ?_
      refine J.prE (fun h => ?_); subst h
      refine J.prE (fun h => ?_); subst h
      refine J.move rfl rfl ?_
      refine J.nil (JX.fin rfl (fun w hw => ⟨rfl, (by rw [hw.1]; exact Bel.refl _)⟩))
    · skip
      refine Fin.cons (fun v3_1 => ?_)
      refine Fin.nil ?_
      refine J.prE (fun h => ?_); subst h
      refine J.unguard rfl rfl rfl ?_
      refine J.loadA (vs := cP a) Ty.a25 Ty.s25 rfl rfl (fun w1 hw => Cells.of_block (hw.2.own _ (.tail _ (.tail _ (.tail _ (.tail _ (.head _)))))) rfl) rfl ?_
      refine J.nil (JX.fin rfl (fun w hw => ⟨rfl, (by rw [hw.1]; exact Bel.refl _)⟩))
    · skip
      refine Fin.cons (fun v3_1 => ?_)
      refine Fin.nil ?_
      refine J.prE (fun h => ?_); subst h
      refine J.unguard rfl rfl rfl ?_
      refine J.loadA (vs := cP b) Ty.a25 Ty.s25 rfl rfl (fun w1 hw => Cells.of_block (hw.2.own _ (.tail _ (.tail _ (.tail _ (.head _))))) rfl) rfl ?_
      refine J.nil (JX.fin rfl (fun w hw => ⟨rfl, (by rw [hw.1]; exact Bel.refl _)⟩))
    · skip
      refine Fin.cons (fun v3_2 => ?_)
      refine Fin.cons (fun v3_3 => ?_)
      refine Fin.cons (fun v3_1 => ?_)
      refine Fin.cons (fun v3_1 => ?_)
      refine Fin.nil ?_
      refine J.prE (fun h => ?_); subst h
      refine J.prE (fun h => ?_); subst h
      refine J.prE (fun h => ?_); subst h
      refine J.prE (fun h => ?_); subst h
      refine J.unguard rfl rfl rfl ?_
      refine J.callD (v := .bool (ltP a b)) Ty.bd31 rfl rfl (fun w1 hw => tless_spec a b w1) ?_
      refine J.nil (JX.fin rfl (fun w hw => ⟨rfl, hw⟩))
    · skip
      refine Fin.cons (fun v3_1 => ?_)
      refine Fin.nil ?_
      refine J.prE (fun h => ?_); subst h
      refine J.unguard rfl rfl rfl ?_
      refine J.loadA (vs := cP a) Ty.a25 Ty.s25 rfl rfl (fun w1 hw => Cells.of_block (hw.2.own _ (.tail _ (.tail _ (.tail _ (.tail _ (.head _)))))) rfl) rfl ?_
      refine J.nil (JX.fin rfl (fun w hw => ⟨rfl, (by rw [hw.1]; exact Bel.refl _)⟩))
    · skip
      refine Fin.cons (fun v3_1 => ?_)
      refine Fin.nil ?_
      refine J.prE (fun h => ?_); subst h
      refine J.unguard rfl rfl rfl ?_
      refine J.loadA (vs := cP b) Ty.a25 Ty.s25 rfl rfl (fun w1 hw => Cells.of_block (hw.2.own _ (.tail _ (.tail _ (.tail _ (.head _))))) rfl) rfl ?_
      refine J.nil (JX.fin rfl (fun w hw => ⟨rfl, (by rw [hw.1]; exact Bel.refl _)⟩))
    · skip
      refine Fin.cons (fun v3_5 => ?_)
      refine Fin.cons (fun v3_6 => ?_)
      refine Fin.cons (fun v3_4 => ?_)
      refine Fin.cons (fun v3_1 => ?_)
      refine Fin.nil ?_
      refine J.prE (fun h => ?_); subst h
      refine J.prE (fun h => ?_); subst h
      refine J.prE (fun h => ?_); subst h
      refine J.prE (fun h => ?_); subst h
      refine J.unguard rfl rfl rfl ?_
      refine J.callD (v := .bool (ltP a b)) Ty.bd32 rfl rfl (fun w1 hw => rless12_spec a b w1) ?_
      refine J.nil (JX.fin rfl (fun w hw => ⟨rfl, hw⟩))
    · skip
      refine Fin.cons (fun v3_4 => ?_)
      refine Fin.cons (fun v3_7 => ?_)
      refine Fin.cons (fun v3_1 => ?_)
      refine Fin.nil ?_
      refine J.prE (fun h => ?_); subst h
      refine J.prE (fun h => ?_); subst h
      refine J.prE (fun h => ?_); subst h
      refine J.unguard rfl rfl rfl ?_
      refine J.eqBool (.inl rfl) Ty.u4 rfl rfl rfl ?_
      refine J.name 33 rfl (show _ = Value.bool true by simp) ?_
      refine J.nil (JX.fin rfl (fun w hw => ⟨rfl, (by rw [hw.1]; exact Bel.refl _)⟩))
    · skip
      refine Fin.cons (fun v3_1 => ?_)
      refine Fin.cons (fun v3_8 => ?_)
      refine Fin.nil ?_
      refine J.prE (fun h => ?_); subst h
      refine J.prE (fun h => ?_); subst h
      (first | refine J.pickT rfl rfl rfl ?_ | refine J.pickF rfl rfl rfl ?_)
      refine J.nil (JX.fin rfl (fun w hw => ⟨rfl, (by rw [hw.1]; exact Bel.refl _)⟩))
    · skip
      refine Fin.cons (fun v3_9 => ?_)
      refine Fin.cons (fun v3_7 => ?_)
      refine Fin.nil ?_
      refine J.prE (fun h => ?_); subst h
      refine J.prE (fun h => ?_); subst h
      refine J.move rfl rfl ?_
      refine J.nil (JX.fin rfl (fun w hw => ⟨rfl, (by rw [hw.1]; exact Bel.refl _)⟩))
    · skip
      refine Fin.cons (fun v3_10 => ?_)
      refine Fin.nil ?_
      refine J.prE (fun h => ?_); subst h
      refine J.unguard rfl rfl rfl ?_
      refine J.loadA (vs := cE xe) Ty.a34 Ty.s34 rfl rfl (fun w1 hw => Cells.of_block (hw.2.own _ (.tail _ (.tail _ (.head _)))) rfl) rfl ?_
      refine J.nil (JX.fin rfl (fun w hw => ⟨rfl, (by rw [hw.1]; exact Bel.refl _)⟩))
    · skip
      refine Fin.cons (fun v3_11 => ?_)
      refine Fin.cons (fun v3_10 => ?_)
      refine Fin.cons (fun v3_10 => ?_)
      refine Fin.nil ?_
      refine J.prE (fun h => ?_); subst h
      refine J.prE (fun h => ?_); subst h
      refine J.prE (fun h => ?_); subst h
      refine J.unguard rfl rfl rfl ?_
      refine J.callD (v := .bool (decide (rightP xe))) Ty.bd33 rfl rfl (fun w1 hw => right_spec xe w1) ?_
      refine J.nil (JX.fin rfl (fun w hw => ⟨rfl, hw⟩))
    · skip
      refine Fin.cons (fun v3_10 => ?_)
      refine Fin.nil ?_
      refine J.prE (fun h => ?_); subst h
      refine J.unguard rfl rfl rfl ?_
      refine J.loadA (vs := cE xe) Ty.a34 Ty.s34 rfl rfl (fun w1 hw => Cells.of_block (hw.2.own _ (.tail _ (.tail _ (.head _)))) rfl) rfl ?_
      refine J.nil (JX.fin rfl (fun w hw => ⟨rfl, (by rw [hw.1]; exact Bel.refl _)⟩))
    · skip
      refine Fin.cons (fun v3_13 => ?_)
      refine Fin.cons (fun v3_12 => ?_)
      refine Fin.cons (fun v3_10 => ?_)
      refine Fin.nil ?_
      refine J.prE (fun h => ?_); subst h
      refine J.prE (fun h => ?_); subst h
      refine J.prE (fun h => ?_); subst h
      refine J.unguard rfl rfl rfl ?_
      refine J.callD (v := .bool (decide (rightP xe))) Ty.bd34 rfl rfl (fun w1 hw => rright_spec xe w1) ?_
      refine J.nil (JX.fin rfl (fun w hw => ⟨rfl, hw⟩))
    · skip
      refine Fin.cons (fun v3_12 => ?_)
      refine Fin.cons (fun v3_14 => ?_)
      refine Fin.cons (fun v3_10 => ?_)
      refine Fin.nil ?_
      refine J.prE (fun h => ?_); subst h
      refine J.prE (fun h => ?_); subst h
      refine J.prE (fun h => ?_); subst h
      refine J.unguard rfl rfl rfl ?_
      refine J.eqBool (.inl rfl) Ty.u4 rfl rfl rfl ?_
      refine J.name 40 rfl (show _ = Value.bool true by simp) ?_
      refine J.nil (JX.fin rfl (fun w hw => ⟨rfl, (by rw [hw.1]; exact Bel.refl _)⟩))
    · skip
      refine Fin.cons (fun v3_10 => ?_)
      refine Fin.cons (fun v3_15 => ?_)
      refine Fin.nil ?_
      refine J.prE (fun h => ?_); subst h
      refine J.prE (fun h => ?_); subst h
      (first | refine J.pickT rfl rfl rfl ?_ | refine J.pickF rfl rfl rfl ?_)
      refine J.nil (JX.fin rfl (fun w hw => ⟨rfl, (by rw [hw.1]; exact Bel.refl _)⟩))
    · skip
      refine Fin.cons (fun v3_16 => ?_)
      refine Fin.cons (fun v3_14 => ?_)
      refine Fin.nil ?_
      refine J.prE (fun h => ?_); subst h
      refine J.prE (fun h => ?_); subst h
      refine J.move rfl rfl ?_
      refine J.nil (JX.fin rfl (fun w hw => ⟨rfl, (by rw [hw.1]; exact Bel.refl _)⟩))
    · skip
      refine Fin.cons (fun v3_17 => ?_)
      refine Fin.nil ?_
      refine J.prE (fun h => ?_); subst h
      refine J.unguard rfl rfl rfl ?_
      refine J.loadA (vs := cI (otherV xe).1) Ty.a23 Ty.s23 rfl rfl (fun w1 hw => Cells.of_block (hw.2.own _ (.tail _ (.head _))) rfl) rfl ?_
      refine J.nil (JX.fin rfl (fun w hw => ⟨rfl, (by rw [hw.1]; exact Bel.refl _)⟩))
    · skip
      refine Fin.cons (fun v3_17 => ?_)
      refine Fin.nil ?_
      refine J.prE (fun h => ?_); subst h
      refine J.unguard rfl rfl rfl ?_
      refine J.loadA (vs := cI (otherV xe).1) Ty.a23 Ty.s23 rfl rfl (fun w1 hw => Cells.of_block (hw.2.own _ (.head _)) rfl) rfl ?_
      refine J.nil (JX.fin rfl (fun w hw => ⟨rfl, (by rw [hw.1]; exact Bel.refl _)⟩))
    · skip
      refine Fin.cons (fun v3_18 => ?_)
      refine Fin.cons (fun v3_19 => ?_)
      refine Fin.cons (fun v3_17 => ?_)
      refine Fin.nil ?_
      refine J.prE (fun h => ?_); subst h
      refine J.prE (fun h => ?_); subst h
      refine J.prE (fun h => ?_); subst h
      refine J.unguard rfl rfl rfl ?_
      refine J.eqI Ty.QI Ty.keyI rfl rfl rfl ?_
      refine J.name 45 rfl (show _ = Value.bool true by simp) ?_
      refine J.nil (JX.fin rfl (fun w hw => ⟨rfl, (by rw [hw.1]; exact Bel.refl _)⟩))
    · skip
      refine Fin.cons (fun v3_17 => ?_)
      refine Fin.cons (fun v3_20 => ?_)
      refine Fin.nil ?_
      refine J.prE (fun h => ?_); subst h
      refine J.prE (fun h => ?_); subst h
      (first | refine J.pickT rfl rfl rfl ?_ | refine J.pickF rfl rfl rfl ?_)
      refine J.nil (JX.fin rfl (fun w hw => ⟨rfl, (by rw [hw.1]; exact Bel.refl _)⟩))
    · skip
      refine Fin.cons (fun v3_21 => ?_)
      refine Fin.cons (fun v3_17 => ?_)
      refine Fin.nil ?_
      refine J.prE (fun h => ?_); subst h
      refine J.prE (fun h => ?_); subst h
      refine J.move rfl rfl ?_
      refine J.nil (JX.fin rfl (fun w hw => ⟨rfl, (by rw [hw.1]; exact Bel.refl _)⟩))
    · skip
      refine Fin.cons (fun v3_22 => ?_)
      refine Fin.nil ?_
      refine J.prE (fun h => ?_); subst h
      first
        | (refine J.skip rfl rfl rfl rfl rfl ?_)
        | (refine J.skipU rfl rfl rfl rfl ?_)
        | (refine J.unguard rfl rfl rfl ?_; refine J.move rfl rfl ?_)
      refine J.nil (JX.fin rfl (fun w hw => ⟨rfl, (by rw [hw.1]; exact Bel.refl _)⟩))
    · skip
      refine Fin.cons (fun v3_22 => ?_)
      refine Fin.nil ?_
      refine J.prE (fun h => ?_); subst h
      first
        | (refine J.skip rfl rfl rfl rfl rfl ?_)
        | (refine J.skipU rfl rfl rfl rfl ?_)
        | (refine J.unguard rfl rfl rfl ?_; refine J.move rfl rfl ?_)
      refine J.nil (JX.fin rfl (fun w hw => ⟨rfl, (by rw [hw.1]; exact Bel.refl _)⟩))
    · skip
      refine Fin.cons (fun v3_23 => ?_)
      refine Fin.cons (fun v3_24 => ?_)
      refine Fin.cons (fun v3_22 => ?_)
      refine Fin.nil ?_
      refine J.prE (fun h => ?_); subst h
      refine J.prE (fun h => ?_); subst h
      refine J.prE (fun h => ?_); subst h
      refine J.unguard rfl rfl rfl ?_
      refine J.bin rfl rfl rfl rfl ?_
      refine J.name 50 rfl (show _ = Value.bool true by simp) ?_
      refine J.nil (JX.fin rfl (fun w hw => ⟨rfl, (by rw [hw.1]; exact Bel.refl _)⟩))
    · skip
      refine Fin.cons (fun v3_22 => ?_)
      refine Fin.cons (fun v3_25 => ?_)
      refine Fin.nil ?_
      refine J.prE (fun h => ?_); subst h
      refine J.prE (fun h => ?_); subst h
      (first | refine J.pickT rfl rfl rfl ?_ | refine J.pickF rfl rfl rfl ?_)
      refine J.nil (JX.fin rfl (fun w hw => ⟨rfl, (by rw [hw.1]; exact Bel.refl _)⟩))
    · skip
      refine Fin.cons (fun v3_26 => ?_)
      refine Fin.cons (fun v3_22 => ?_)
      refine Fin.nil ?_
      refine J.prE (fun h => ?_); subst h
      refine J.prE (fun h => ?_); subst h
      refine J.move rfl rfl ?_
      refine J.nil (JX.fin rfl (fun w hw => ⟨rfl, (by rw [hw.1]; exact Bel.refl _)⟩))
    · skip
      refine Fin.cons (fun v3_27 => ?_)
      refine Fin.nil ?_
      refine J.prE (fun h => ?_); subst h
      first
        | (refine J.skip rfl rfl rfl rfl rfl ?_)
        | (refine J.skipU rfl rfl rfl rfl ?_)
        | (refine J.unguard rfl rfl rfl ?_; refine J.move rfl rfl ?_)
      refine J.nil (JX.fin rfl (fun w hw => ⟨rfl, (by rw [hw.1]; exact Bel.refl _)⟩))
    · skip
      refine Fin.cons (fun v3_27 => ?_)
      refine Fin.nil ?_
      refine J.prE (fun h => ?_); subst h
      first
        | (refine J.skip rfl rfl rfl rfl rfl ?_)
        | (refine J.skipU rfl rfl rfl rfl ?_)
        | (refine J.unguard rfl rfl rfl ?_; refine J.move rfl rfl ?_)
      refine J.nil (JX.fin rfl (fun w hw => ⟨rfl, (by rw [hw.1]; exact Bel.refl _)⟩))
    · skip
      refine Fin.cons (fun v3_28 => ?_)
      refine Fin.cons (fun v3_29 => ?_)
      refine Fin.cons (fun v3_27 => ?_)
      refine Fin.nil ?_
      refine J.prE (fun h => ?_); subst h
      refine J.prE (fun h => ?_); subst h
      refine J.prE (fun h => ?_); subst h
      refine J.unguard rfl rfl rfl ?_
      refine J.eqBool (.inl rfl) Ty.u4 rfl rfl rfl ?_
      refine J.name 55 rfl (show _ = Value.bool true by simp) ?_
      refine J.nil (JX.fin rfl (fun w hw => ⟨rfl, (by rw [hw.1]; exact Bel.refl _)⟩))
    · skip
      refine Fin.cons (fun v3_27 => ?_)
      refine Fin.cons (fun v3_30 => ?_)
      refine Fin.nil ?_
      refine J.prE (fun h => ?_); subst h
      refine J.prE (fun h => ?_); subst h
      (first | refine J.pickT rfl rfl rfl ?_ | refine J.pickF rfl rfl rfl ?_)
      refine J.nil (JX.fin rfl (fun w hw => ⟨rfl, (by rw [hw.1]; exact Bel.refl _)⟩))
  case htail =>
    refine Fin.cons (fun v3_0 => ?_)
    refine Fin.cons (fun v3_1 => ?_)
    refine Fin.cons (fun v3_2 => ?_)
    refine Fin.cons (fun v3_3 => ?_)
    refine Fin.cons (fun v3_4 => ?_)
    refine Fin.cons (fun v3_5 => ?_)
    refine Fin.cons (fun v3_6 => ?_)
    refine Fin.cons (fun v3_7 => ?_)
    refine Fin.cons (fun v3_8 => ?_)
    refine Fin.cons (fun v3_9 => ?_)
    refine Fin.cons (fun v3_10 => ?_)
    refine Fin.cons (fun v3_11 => ?_)
    refine Fin.cons (fun v3_12 => ?_)
    refine Fin.cons (fun v3_13 => ?_)
    refine Fin.cons (fun v3_14 => ?_)
    refine Fin.cons (fun v3_15 => ?_)
    refine Fin.cons (fun v3_16 => ?_)
    refine Fin.cons (fun v3_17 => ?_)
    refine Fin.cons (fun v3_18 => ?_)
    refine Fin.cons (fun v3_19 => ?_)
    refine Fin.cons (fun v3_20 => ?_)
    refine Fin.cons (fun v3_21 => ?_)
    refine Fin.cons (fun v3_22 => ?_)
    refine Fin.cons (fun v3_23 => ?_)
    refine Fin.cons (fun v3_24 => ?_)
    refine Fin.cons (fun v3_25 => ?_)
    refine Fin.cons (fun v3_26 => ?_)
    refine Fin.cons (fun v3_27 => ?_)
    refine Fin.cons (fun v3_28 => ?_)
    refine Fin.cons (fun v3_29 => ?_)
    refine Fin.cons (fun v3_30 => ?_)
    refine Fin.cons (fun v3_31 => ?_)
    refine Fin.nil ?_
    refine J.prE (fun h => ?_); subst h
    refine J.prE (fun h => ?_); subst h
    refine J.prE (fun h => ?_); subst h
    refine J.prE (fun h => ?_); subst h
    refine J.prE (fun h => ?_); subst h
    refine J.prE (fun h => ?_); subst h
    refine J.prE (fun h => ?_); subst h
    refine J.prE (fun h => ?_); subst h
    refine J.prE (fun h => ?_); subst h
    refine J.prE (fun h => ?_); subst h
    refine J.prE (fun h => ?_); subst h
    refine J.prE (fun h => ?_); subst h
    refine J.prE (fun h => ?_); subst h
    refine J.prE (fun h => ?_); subst h
    refine J.prE (fun h => ?_); subst h
    refine J.prE (fun h => ?_); subst h
    refine J.prE (fun h => ?_); subst h
    refine J.prE (fun h => ?_); subst h
    refine J.prE (fun h => ?_); subst h
    refine J.prE (fun h => ?_); subst h
    refine J.prE (fun h => ?_); subst h
    refine J.prE (fun h => ?_); subst h
    refine J.prE (fun h => ?_); subst h
    refine J.prE (fun h => ?_); subst h
    refine J.prE (fun h => ?_); subst h
    refine J.prE (fun h => ?_); subst h
    refine J.prE (fun h => ?_); subst h
    refine J.prE (fun h => ?_); subst h
    refine J.prE (fun h => ?_); subst h
    refine J.prE (fun h => ?_); subst h
    refine J.prE (fun h => ?_); subst h
    refine J.prE (fun h => ?_); subst h
    refine J.assign rfl rfl ?_
    refine J.nil ?_
    refine JX.thenN (hK3 _ _ ?_)
    refine JC.ret ?_
    refine JX.ret1 rfl rfl (fun w hw => ?_)
    exact ⟨rfl, (hw.drop (List.nil_sublist _)).below⟩

theorem tableAsks_walk (w : World) (ac : List Value) (a : PV) (ha : RPath w ac a) (bc : List Value) (b : PV) (hb : RPath w bc b) (xc : List Value) (xe : EV) (hx : REnt w xc xe) :
    Calls Try.prog 7 [.agg ac.toArray, .agg bc.toArray, .agg xc.toArray].toArray w fun r w' => r = .returned (.bool true) ∧ Bel w w' := by
  obtain ⟨rfl, _⟩ := ha
  obtain ⟨rfl, _⟩ := hb
  obtain ⟨rfl, _⟩ := hx
  exact tableAsks_spec a b xe w

set_option maxHeartbeats 1000000 in
theorem tableNil_spec (xe : EV) (n : Int) (w : World) :
    Calls Try.prog 11 [.agg (cE xe).toArray, .int .i64 n].toArray w fun r w' => r = .returned (.bool true) ∧ Bel w w' := by
  refine calls_of_J (args := [.agg (cE xe).toArray, .int .i64 n]) (e := [(0, .agg (cE xe).toArray), (1, .int .i64 n)]) Try.func11 rfl rfl ⟨rfl, rfl, trivial⟩ (St.start w) ?_
  refine JC.seq (fun K0 hK0 => ?_)
  refine JC.region ?_
  refine J.box rfl rfl rfl (fun b2 => ?_)
  refine J.assign rfl rfl ?_
  refine J.nil ?_
  refine JX.thenN (hK0 _ _ ?_)
  refine JC.seq (fun K1 hK1 => ?_)
  refine JC.region ?_
  refine J.assign rfl rfl ?_
  refine J.nil ?_
  refine JX.thenN (hK1 _ _ ?_)
  refine JC.seq (fun K2 hK2 => ?_)
  refine JC.region ?_
  refine J.move rfl rfl ?_
  refine J.fieldAddr Ty.fd34_0 rfl rfl ?_
  refine J.loadOA (vs := cP xe.p) Ty.a25 Ty.s25 rfl (.head _) rfl rfl rfl ?_
  refine J.callB (v := .tuple #[.agg (cE zE).toArray, .bool false]) (fun w1 w2 hw hb => hw.step hb) Ty.bd23 rfl rfl (fun w1 hw => get_nil xe.p w1) ?_
  refine J.move rfl rfl ?_
  refine J.extract rfl rfl rfl ?_
  refine J.extract rfl rfl rfl ?_
  refine J.alloc Ty.zE_ rfl rfl (fun b6 => ?_)
  refine J.storeW (cs := cE zE) (vs := cE zE) Ty.s34 rfl rfl rfl rfl rfl (one_cE _) .here ?_
  refine J.assign rfl rfl ?_
  refine J.nil ?_
  refine JX.thenN (hK2 _ _ ?_)
  refine JC.seq (fun K3 hK3 => ?_)
  refine JC.region ?_
  refine J.move rfl rfl ?_
  refine J.fieldAddr Ty.fd34_0 rfl rfl ?_
  refine J.loadOA (vs := cP xe.p) Ty.a25 Ty.s25 rfl (.tail _ (.head _)) rfl rfl rfl ?_
  refine J.callB (v := .tuple #[.agg (cE zE).toArray, .bool false]) (fun w1 w2 hw hb => hw.step hb) Ty.bd35 rfl rfl (fun w1 hw => remove_nil xe.p w1) ?_
  refine J.move rfl rfl ?_
  refine J.extract rfl rfl rfl ?_
  refine J.extract rfl rfl rfl ?_
  refine J.alloc Ty.zE_ rfl rfl (fun b8 => ?_)
  refine J.storeW (cs := cE zE) (vs := cE zE) Ty.s34 rfl rfl rfl rfl rfl (one_cE _) .here ?_
  refine J.assign rfl rfl ?_
  refine J.nil ?_
  refine JX.thenN (hK3 _ _ ?_)
  refine JC.seq (fun K4 hK4 => ?_)
  apply JC.drawL 41 [Eqv (.bool true), Eqv (.bool true), Eqv (.pointer none), Eqv (.agg (cE xe).toArray), Eqv (.int .i64 1), Eqv (.bool true), Eqv (.bool true), Eqv (.bool true), Eqv (.bool false), Eqv (.bool true), Eqv (.bool true), Eqv (.bool true), Eqv (.bool false), Eqv (.bool true), Eqv (.bool true), Eqv (.bool true), Eqv (.pointer none), Eqv (.int .i64 0), Eqv (.bool true), Eqv (.bool true), Eqv (.bool true), Eqv (.pointer none), Eqv (.slice none 0 0), Eqv (.int .i64 ((0 : Nat) : Int)), Eqv (.pointer none), Eqv (.int .i64 n), Eqv (.slice none 0 0), Eqv (.int .i64 ((0 : Nat) : Int)), Eqv (.int .i64 0), Eqv (.pointer none), Eqv (.pointer (some ⟨b2, 0 + 17, none⟩)), Eqv (.agg (cI xe.a).toArray), Eqv (.slice none 0 0), Eqv (.int .i64 ((0 : Nat) : Int)), Eqv (.int .i64 0), Eqv (.pointer none), Eqv (.slice none 0 0), Eqv (.int .i64 ((0 : Nat) : Int)), Eqv (.int .i64 0), Eqv (.bool true), Eqv (.bool true)] Ty.mixed rfl rfl rfl (by kernel_rfl) rfl rfl (fun w w' hw hb => hw.step hb) ⟨fun _ _ _ h _ => h, fun _ _ _ h _ => h, fun _ _ _ h _ => h, fun _ _ _ h _ => h, fun _ _ _ h _ => h, fun _ _ _ h _ => h, fun _ _ _ h _ => h, fun _ _ _ h _ => h, fun _ _ _ h _ => h, fun _ _ _ h _ => h, fun _ _ _ h _ => h, fun _ _ _ h _ => h, fun _ _ _ h _ => h, fun _ _ _ h _ => h, fun _ _ _ h _ => h, fun _ _ _ h _ => h, fun _ _ _ h _ => h, fun _ _ _ h _ => h, fun _ _ _ h _ => h, fun _ _ _ h _ => h, fun _ _ _ h _ => h, fun _ _ _ h _ => h, fun _ _ _ h _ => h, fun _ _ _ h _ => h, fun _ _ _ h _ => h, fun _ _ _ h _ => h, fun _ _ _ h _ => h, fun _ _ _ h _ => h, fun _ _ _ h _ => h, fun _ _ _ h _ => h, fun _ _ _ h _ => h, fun _ _ _ h _ => h, fun _ _ _ h _ => h, fun _ _ _ h _ => h, fun _ _ _ h _ => h, fun _ _ _ h _ => h, fun _ _ _ h _ => h, fun _ _ _ h _ => h, fun _ _ _ h _ => h, fun _ _ _ h _ => h, fun _ _ _ h _ => h, trivial⟩ ?hstep ?htail
  case hstep =>
    refine ⟨fun wi => ?_, fun wi => ?_, fun wi => ?_, fun wi => ?_, fun wi => ?_, fun wi => ?_, fun wi => ?_, fun wi => ?_, fun wi => ?_, fun wi => ?_, fun wi => ?_, fun wi => ?_, fun wi => ?_, fun wi => ?_, fun wi => ?_, fun wi => ?_, fun wi => ?_, fun wi => ?_, fun wi => ?_, fun wi => ?_, fun wi => ?_, fun wi => ?_, fun wi => ?_, fun wi => ?_, fun wi => ?_, fun wi => ?_, fun wi => ?_, fun wi => ?_, fun wi => ?_, fun wi => ?_, fun wi => ?_, fun wi => ?_, fun wi => ?_, fun wi => ?_, fun wi => ?_, fun wi => ?_, fun wi => ?_, fun wi => ?_, fun wi => ?_, fun wi => ?_, fun wi => ?_, trivial⟩
    · skip
      refine Fin.nil ?_
      refine J.callD (v := .bool true) Ty.bd24 rfl rfl (fun w1 hw => fixed12_spec w1) ?_
      refine J.nil (JX.fin rfl (fun w hw => ⟨rfl, hw⟩))
    · skip
      refine Fin.cons (fun v4_0 => ?_)
      refine Fin.cons (fun v4_0 => ?_)
      refine Fin.nil ?_
      refine J.prE (fun h => ?_); subst h
      refine J.prE (fun h => ?_); subst h
      refine J.move rfl rfl ?_
      refine J.nil (JX.fin rfl (fun w hw => ⟨rfl, (by rw [hw.1]; exact Bel.refl _)⟩))
    · skip
      refine Fin.cons (fun v4_1 => ?_)
      refine Fin.nil ?_
      refine J.prE (fun h => ?_); subst h
      first
        | (refine J.skip rfl rfl rfl rfl rfl ?_)
        | (refine J.skipU rfl rfl rfl rfl ?_)
        | (refine J.unguard rfl rfl rfl ?_; refine J.move rfl rfl ?_)
      refine J.nil (JX.fin rfl (fun w hw => ⟨rfl, (by rw [hw.1]; exact Bel.refl _)⟩))
    · skip
      refine Fin.cons (fun v4_1 => ?_)
      refine Fin.nil ?_
      refine J.prE (fun h => ?_); subst h
      refine J.unguard rfl rfl rfl ?_
      refine J.loadA (vs := cE xe) Ty.a34 Ty.s34 rfl rfl (fun w1 hw => Cells.of_block (hw.2.own _ (.tail _ (.tail _ (.head _)))) rfl) rfl ?_
      refine J.nil (JX.fin rfl (fun w hw => ⟨rfl, (by rw [hw.1]; exact Bel.refl _)⟩))
    · skip
      refine Fin.cons (fun v4_2 => ?_)
      refine Fin.cons (fun v4_3 => ?_)
      refine Fin.cons (fun v4_1 => ?_)
      refine Fin.cons (fun v4_1 => ?_)
      refine Fin.nil ?_
      refine J.prE (fun h => ?_); subst h
      refine J.prE (fun h => ?_); subst h
      refine J.prE (fun h => ?_); subst h
      refine J.prE (fun h => ?_); subst h
      refine J.unguard rfl rfl rfl ?_
      refine J.callD (v := .int .i64 1) Ty.bd17 rfl rfl (fun w1 hw => add_nil xe w1) ?_
      refine J.nil (JX.fin rfl (fun w hw => ⟨rfl, hw⟩))
    · skip
      refine Fin.cons (fun v4_4 => ?_)
      refine Fin.cons (fun v4_1 => ?_)
      refine Fin.nil ?_
      refine J.prE (fun h => ?_); subst h
      refine J.prE (fun h => ?_); subst h
      refine J.unguard rfl rfl rfl ?_
      refine J.bin rfl rfl rfl rfl ?_
      refine J.name 29 rfl (show _ = Value.bool true by rfl) ?_
      refine J.nil (JX.fin rfl (fun w hw => ⟨rfl, (by rw [hw.1]; exact Bel.refl _)⟩))
    · skip
      refine Fin.cons (fun v4_1 => ?_)
      refine Fin.cons (fun v4_5 => ?_)
      refine Fin.nil ?_
      refine J.prE (fun h => ?_); subst h
      refine J.prE (fun h => ?_); subst h
      (first | refine J.pickT rfl rfl rfl ?_ | refine J.pickF rfl rfl rfl ?_)
      refine J.nil (JX.fin rfl (fun w hw => ⟨rfl, (by rw [hw.1]; exact Bel.refl _)⟩))
    · skip
      refine Fin.cons (fun v4_6 => ?_)
      refine Fin.cons (fun v4_4 => ?_)
      refine Fin.nil ?_
      refine J.prE (fun h => ?_); subst h
      refine J.prE (fun h => ?_); subst h
      refine J.move rfl rfl ?_
      refine J.nil (JX.fin rfl (fun w hw => ⟨rfl, (by rw [hw.1]; exact Bel.refl _)⟩))
    · skip
      refine Fin.cons (fun v4_7 => ?_)
      refine Fin.nil ?_
      refine J.prE (fun h => ?_); subst h
      first
        | (refine J.skip rfl rfl rfl rfl rfl ?_)
        | (refine J.skipU rfl rfl rfl rfl ?_)
        | (refine J.unguard rfl rfl rfl ?_; refine J.move rfl rfl ?_)
      refine J.nil (JX.fin rfl (fun w hw => ⟨rfl, (by rw [hw.1]; exact Bel.refl _)⟩))
    · skip
      refine Fin.cons (fun v4_8 => ?_)
      refine Fin.cons (fun v4_7 => ?_)
      refine Fin.nil ?_
      refine J.prE (fun h => ?_); subst h
      refine J.prE (fun h => ?_); subst h
      first
        | (refine J.skip rfl rfl rfl rfl rfl ?_)
        | (refine J.skipU rfl rfl rfl rfl ?_)
        | (refine J.unguard rfl rfl rfl ?_; refine J.not rfl rfl ?_)
      refine J.nil (JX.fin rfl (fun w hw => ⟨rfl, (by rw [hw.1]; exact Bel.refl _)⟩))
    · skip
      refine Fin.cons (fun v4_7 => ?_)
      refine Fin.cons (fun v4_9 => ?_)
      refine Fin.nil ?_
      refine J.prE (fun h => ?_); subst h
      refine J.prE (fun h => ?_); subst h
      (first | refine J.pickT rfl rfl rfl ?_ | refine J.pickF rfl rfl rfl ?_)
      refine J.nil (JX.fin rfl (fun w hw => ⟨rfl, (by rw [hw.1]; exact Bel.refl _)⟩))
    · skip
      refine Fin.cons (fun v4_10 => ?_)
      refine Fin.cons (fun v4_7 => ?_)
      refine Fin.nil ?_
      refine J.prE (fun h => ?_); subst h
      refine J.prE (fun h => ?_); subst h
      refine J.move rfl rfl ?_
      refine J.nil (JX.fin rfl (fun w hw => ⟨rfl, (by rw [hw.1]; exact Bel.refl _)⟩))
    · skip
      refine Fin.cons (fun v4_11 => ?_)
      refine Fin.nil ?_
      refine J.prE (fun h => ?_); subst h
      first
        | (refine J.skip rfl rfl rfl rfl rfl ?_)
        | (refine J.skipU rfl rfl rfl rfl ?_)
        | (refine J.unguard rfl rfl rfl ?_; refine J.move rfl rfl ?_)
      refine J.nil (JX.fin rfl (fun w hw => ⟨rfl, (by rw [hw.1]; exact Bel.refl _)⟩))
    · skip
      refine Fin.cons (fun v4_12 => ?_)
      refine Fin.cons (fun v4_11 => ?_)
      refine Fin.nil ?_
      refine J.prE (fun h => ?_); subst h
      refine J.prE (fun h => ?_); subst h
      first
        | (refine J.skip rfl rfl rfl rfl rfl ?_)
        | (refine J.skipU rfl rfl rfl rfl ?_)
        | (refine J.unguard rfl rfl rfl ?_; refine J.not rfl rfl ?_)
      refine J.nil (JX.fin rfl (fun w hw => ⟨rfl, (by rw [hw.1]; exact Bel.refl _)⟩))
    · skip
      refine Fin.cons (fun v4_11 => ?_)
      refine Fin.cons (fun v4_13 => ?_)
      refine Fin.nil ?_
      refine J.prE (fun h => ?_); subst h
      refine J.prE (fun h => ?_); subst h
      (first | refine J.pickT rfl rfl rfl ?_ | refine J.pickF rfl rfl rfl ?_)
      refine J.nil (JX.fin rfl (fun w hw => ⟨rfl, (by rw [hw.1]; exact Bel.refl _)⟩))
    · skip
      refine Fin.cons (fun v4_14 => ?_)
      refine Fin.cons (fun v4_11 => ?_)
      refine Fin.nil ?_
      refine J.prE (fun h => ?_); subst h
      refine J.prE (fun h => ?_); subst h
      refine J.move rfl rfl ?_
      refine J.nil (JX.fin rfl (fun w hw => ⟨rfl, (by rw [hw.1]; exact Bel.refl _)⟩))
    · skip
      refine Fin.cons (fun v4_15 => ?_)
      refine Fin.nil ?_
      refine J.prE (fun h => ?_); subst h
      first
        | (refine J.skip rfl rfl rfl rfl rfl ?_)
        | (refine J.skipU rfl rfl rfl rfl ?_)
        | (refine J.unguard rfl rfl rfl ?_; refine J.move rfl rfl ?_)
      refine J.nil (JX.fin rfl (fun w hw => ⟨rfl, (by rw [hw.1]; exact Bel.refl _)⟩))
    · skip
      refine Fin.cons (fun v4_16 => ?_)
      refine Fin.cons (fun v4_15 => ?_)
      refine Fin.cons (fun v4_15 => ?_)
      refine Fin.nil ?_
      refine J.prE (fun h => ?_); subst h
      refine J.prE (fun h => ?_); subst h
      refine J.prE (fun h => ?_); subst h
      refine J.unguard rfl rfl rfl ?_
      refine J.callD (v := .int .i64 0) Ty.bd20 rfl rfl (fun w1 hw => len_nil w1) ?_
      refine J.nil (JX.fin rfl (fun w hw => ⟨rfl, hw⟩))
    · skip
      refine Fin.cons (fun v4_17 => ?_)
      refine Fin.cons (fun v4_15 => ?_)
      refine Fin.nil ?_
      refine J.prE (fun h => ?_); subst h
      refine J.prE (fun h => ?_); subst h
      refine J.unguard rfl rfl rfl ?_
      refine J.bin rfl rfl rfl rfl ?_
      refine J.name 42 rfl (show _ = Value.bool true by rfl) ?_
      refine J.nil (JX.fin rfl (fun w hw => ⟨rfl, (by rw [hw.1]; exact Bel.refl _)⟩))
    · skip
      refine Fin.cons (fun v4_15 => ?_)
      refine Fin.cons (fun v4_18 => ?_)
      refine Fin.nil ?_
      refine J.prE (fun h => ?_); subst h
      refine J.prE (fun h => ?_); subst h
      (first | refine J.pickT rfl rfl rfl ?_ | refine J.pickF rfl rfl rfl ?_)
      refine J.nil (JX.fin rfl (fun w hw => ⟨rfl, (by rw [hw.1]; exact Bel.refl _)⟩))
    · skip
      refine Fin.cons (fun v4_19 => ?_)
      refine Fin.cons (fun v4_17 => ?_)
      refine Fin.nil ?_
      refine J.prE (fun h => ?_); subst h
      refine J.prE (fun h => ?_); subst h
      refine J.move rfl rfl ?_
      refine J.nil (JX.fin rfl (fun w hw => ⟨rfl, (by rw [hw.1]; exact Bel.refl _)⟩))
    · skip
      refine Fin.cons (fun v4_20 => ?_)
      refine Fin.nil ?_
      refine J.prE (fun h => ?_); subst h
      first
        | (refine J.skip rfl rfl rfl rfl rfl ?_)
        | (refine J.skipU rfl rfl rfl rfl ?_)
        | (refine J.unguard rfl rfl rfl ?_; refine J.move rfl rfl ?_)
      refine J.nil (JX.fin rfl (fun w hw => ⟨rfl, (by rw [hw.1]; exact Bel.refl _)⟩))
    · skip
      refine Fin.cons (fun v4_21 => ?_)
      refine Fin.cons (fun v4_20 => ?_)
      refine Fin.cons (fun v4_20 => ?_)
      refine Fin.nil ?_
      refine J.prE (fun h => ?_); subst h
      refine J.prE (fun h => ?_); subst h
      refine J.prE (fun h => ?_); subst h
      refine J.unguard rfl rfl rfl ?_
      refine J.callD (v := .slice none 0 0) Ty.bd25 rfl rfl (fun w1 hw => all_nil w1) ?_
      refine J.nil (JX.fin rfl (fun w hw => ⟨rfl, hw⟩))
    · skip
      refine Fin.cons (fun v4_22 => ?_)
      refine Fin.cons (fun v4_20 => ?_)
      refine Fin.nil ?_
      refine J.prE (fun h => ?_); subst h
      refine J.prE (fun h => ?_); subst h
      first
        | (refine J.skip rfl rfl rfl rfl rfl ?_)
        | (refine J.skipU rfl rfl rfl rfl ?_)
        | (refine J.unguard rfl rfl rfl ?_; refine J.lenS rfl Ty.u62 rfl rfl ?_)
      refine J.nil (JX.fin rfl (fun w hw => ⟨rfl, (by rw [hw.1]; exact Bel.refl _)⟩))
    · skip
      refine Fin.cons (fun v4_20 => ?_)
      refine Fin.nil ?_
      refine J.prE (fun h => ?_); subst h
      first
        | (refine J.skip rfl rfl rfl rfl rfl ?_)
        | (refine J.skipU rfl rfl rfl rfl ?_)
        | (refine J.unguard rfl rfl rfl ?_; refine J.move rfl rfl ?_)
      refine J.nil (JX.fin rfl (fun w hw => ⟨rfl, (by rw [hw.1]; exact Bel.refl _)⟩))
    · skip
      refine Fin.cons (fun v4_20 => ?_)
      refine Fin.nil ?_
      refine J.prE (fun h => ?_); subst h
      first
        | (refine J.skip rfl rfl rfl rfl rfl ?_)
        | (refine J.skipU rfl rfl rfl rfl ?_)
        | (refine J.unguard rfl rfl rfl ?_; refine J.move rfl rfl ?_)
      refine J.nil (JX.fin rfl (fun w hw => ⟨rfl, (by rw [hw.1]; exact Bel.refl _)⟩))
    · skip
      refine Fin.cons (fun v4_24 => ?_)
      refine Fin.cons (fun v4_25 => ?_)
      refine Fin.cons (fun v4_22 => ?_)
      refine Fin.cons (fun v4_20 => ?_)
      refine Fin.nil ?_
      refine J.prE (fun h => ?_); subst h
      refine J.prE (fun h => ?_); subst h
      refine J.prE (fun h => ?_); subst h
      refine J.prE (fun h => ?_); subst h
      refine J.unguard rfl rfl rfl ?_
      refine J.callD (v := .slice none 0 0) Ty.bd27 rfl rfl (fun w1 hw => via_nil n w1) ?_
      refine J.nil (JX.fin rfl (fun w hw => ⟨rfl, hw⟩))
    · skip
      refine Fin.cons (fun v4_26 => ?_)
      refine Fin.cons (fun v4_20 => ?_)
      refine Fin.nil ?_
      refine J.prE (fun h => ?_); subst h
      refine J.prE (fun h => ?_); subst h
      first
        | (refine J.skip rfl rfl rfl rfl rfl ?_)
        | (refine J.skipU rfl rfl rfl rfl ?_)
        | (refine J.unguard rfl rfl rfl ?_; refine J.lenS rfl Ty.u62 rfl rfl ?_)
      refine J.nil (JX.fin rfl (fun w hw => ⟨rfl, (by rw [hw.1]; exact Bel.refl _)⟩))
    · skip
      refine Fin.cons (fun v4_23 => ?_)
      refine Fin.cons (fun v4_27 => ?_)
      refine Fin.cons (fun v4_20 => ?_)
      refine Fin.nil ?_
      refine J.prE (fun h => ?_); subst h
      refine J.prE (fun h => ?_); subst h
      refine J.prE (fun h => ?_); subst h
      refine J.unguard rfl rfl rfl ?_
      refine J.bin rfl rfl rfl rfl ?_
      refine J.name 52 rfl (show _ = Value.int .i64 0 by rfl) ?_
      refine J.nil (JX.fin rfl (fun w hw => ⟨rfl, (by rw [hw.1]; exact Bel.refl _)⟩))
    · skip
      refine Fin.cons (fun v4_20 => ?_)
      refine Fin.nil ?_
      refine J.prE (fun h => ?_); subst h
      first
        | (refine J.skip rfl rfl rfl rfl rfl ?_)
        | (refine J.skipU rfl rfl rfl rfl ?_)
        | (refine J.unguard rfl rfl rfl ?_; refine J.move rfl rfl ?_)
      refine J.nil (JX.fin rfl (fun w hw => ⟨rfl, (by rw [hw.1]; exact Bel.refl _)⟩))
    · skip
      refine Fin.cons (fun v4_20 => ?_)
      refine Fin.nil ?_
      refine J.prE (fun h => ?_); subst h
      first
        | (refine J.skip rfl rfl rfl rfl rfl ?_)
        | (refine J.skipU rfl rfl rfl rfl ?_)
        | (refine J.unguard rfl rfl rfl ?_; refine J.fieldAddr Ty.fd34_1 rfl rfl ?_)
      refine J.nil (JX.fin rfl (fun w hw => ⟨rfl, (by rw [hw.1]; exact Bel.refl _)⟩))
    · skip
      refine Fin.cons (fun v4_30 => ?_)
      refine Fin.cons (fun v4_20 => ?_)
      refine Fin.nil ?_
      refine J.prE (fun h => ?_); subst h
      refine J.prE (fun h => ?_); subst h
      refine J.unguard rfl rfl rfl ?_
      refine J.loadA (vs := cI xe.a) Ty.a23 Ty.s23 rfl rfl (fun w1 hw => Cells.of_block (hw.2.own _ (.tail _ (.tail _ (.head _)))) rfl) rfl ?_
      refine J.nil (JX.fin rfl (fun w hw => ⟨rfl, (by rw [hw.1]; exact Bel.refl _)⟩))
    · skip
      refine Fin.cons (fun v4_29 => ?_)
      refine Fin.cons (fun v4_31 => ?_)
      refine Fin.cons (fun v4_26 => ?_)
      refine Fin.cons (fun v4_20 => ?_)
      refine Fin.nil ?_
      refine J.prE (fun h => ?_); subst h
      refine J.prE (fun h => ?_); subst h
      refine J.prE (fun h => ?_); subst h
      refine J.prE (fun h => ?_); subst h
      refine J.unguard rfl rfl rfl ?_
      refine J.callD (v := .slice none 0 0) Ty.bd28 rfl rfl (fun w1 hw => to_nil xe.a w1) ?_
      refine J.nil (JX.fin rfl (fun w hw => ⟨rfl, hw⟩))
    · skip
      refine Fin.cons (fun v4_32 => ?_)
      refine Fin.cons (fun v4_20 => ?_)
      refine Fin.nil ?_
      refine J.prE (fun h => ?_); subst h
      refine J.prE (fun h => ?_); subst h
      first
        | (refine J.skip rfl rfl rfl rfl rfl ?_)
        | (refine J.skipU rfl rfl rfl rfl ?_)
        | (refine J.unguard rfl rfl rfl ?_; refine J.lenS rfl Ty.u62 rfl rfl ?_)
      refine J.nil (JX.fin rfl (fun w hw => ⟨rfl, (by rw [hw.1]; exact Bel.refl _)⟩))
    · skip
      refine Fin.cons (fun v4_28 => ?_)
      refine Fin.cons (fun v4_33 => ?_)
      refine Fin.cons (fun v4_20 => ?_)
      refine Fin.nil ?_
      refine J.prE (fun h => ?_); subst h
      refine J.prE (fun h => ?_); subst h
      refine J.prE (fun h => ?_); subst h
      refine J.unguard rfl rfl rfl ?_
      refine J.bin rfl rfl rfl rfl ?_
      refine J.name 58 rfl (show _ = Value.int .i64 0 by rfl) ?_
      refine J.nil (JX.fin rfl (fun w hw => ⟨rfl, (by rw [hw.1]; exact Bel.refl _)⟩))
    · skip
      refine Fin.cons (fun v4_20 => ?_)
      refine Fin.nil ?_
      refine J.prE (fun h => ?_); subst h
      first
        | (refine J.skip rfl rfl rfl rfl rfl ?_)
        | (refine J.skipU rfl rfl rfl rfl ?_)
        | (refine J.unguard rfl rfl rfl ?_; refine J.move rfl rfl ?_)
      refine J.nil (JX.fin rfl (fun w hw => ⟨rfl, (by rw [hw.1]; exact Bel.refl _)⟩))
    · skip
      refine Fin.cons (fun v4_35 => ?_)
      refine Fin.cons (fun v4_32 => ?_)
      refine Fin.cons (fun v4_20 => ?_)
      refine Fin.nil ?_
      refine J.prE (fun h => ?_); subst h
      refine J.prE (fun h => ?_); subst h
      refine J.prE (fun h => ?_); subst h
      refine J.unguard rfl rfl rfl ?_
      refine J.callD (v := .slice none 0 0) Ty.bd43 rfl rfl (fun w1 hw => own_nil_ w1) ?_
      refine J.nil (JX.fin rfl (fun w hw => ⟨rfl, hw⟩))
    · skip
      refine Fin.cons (fun v4_36 => ?_)
      refine Fin.cons (fun v4_20 => ?_)
      refine Fin.nil ?_
      refine J.prE (fun h => ?_); subst h
      refine J.prE (fun h => ?_); subst h
      first
        | (refine J.skip rfl rfl rfl rfl rfl ?_)
        | (refine J.skipU rfl rfl rfl rfl ?_)
        | (refine J.unguard rfl rfl rfl ?_; refine J.lenS rfl Ty.u62 rfl rfl ?_)
      refine J.nil (JX.fin rfl (fun w hw => ⟨rfl, (by rw [hw.1]; exact Bel.refl _)⟩))
    · skip
      refine Fin.cons (fun v4_34 => ?_)
      refine Fin.cons (fun v4_37 => ?_)
      refine Fin.cons (fun v4_20 => ?_)
      refine Fin.nil ?_
      refine J.prE (fun h => ?_); subst h
      refine J.prE (fun h => ?_); subst h
      refine J.prE (fun h => ?_); subst h
      refine J.unguard rfl rfl rfl ?_
      refine J.bin rfl rfl rfl rfl ?_
      refine J.name 62 rfl (show _ = Value.int .i64 0 by rfl) ?_
      refine J.nil (JX.fin rfl (fun w hw => ⟨rfl, (by rw [hw.1]; exact Bel.refl _)⟩))
    · skip
      refine Fin.cons (fun v4_38 => ?_)
      refine Fin.cons (fun v4_20 => ?_)
      refine Fin.nil ?_
      refine J.prE (fun h => ?_); subst h
      refine J.prE (fun h => ?_); subst h
      refine J.unguard rfl rfl rfl ?_
      refine J.bin rfl rfl rfl rfl ?_
      refine J.name 63 rfl (show _ = Value.bool true by rfl) ?_
      refine J.nil (JX.fin rfl (fun w hw => ⟨rfl, (by rw [hw.1]; exact Bel.refl _)⟩))
    · skip
      refine Fin.cons (fun v4_20 => ?_)
      refine Fin.cons (fun v4_39 => ?_)
      refine Fin.nil ?_
      refine J.prE (fun h => ?_); subst h
      refine J.prE (fun h => ?_); subst h
      (first | refine J.pickT rfl rfl rfl ?_ | refine J.pickF rfl rfl rfl ?_)
      refine J.nil (JX.fin rfl (fun w hw => ⟨rfl, (by rw [hw.1]; exact Bel.refl _)⟩))
  case htail =>
    refine Fin.cons (fun v4_0 => ?_)
    refine Fin.cons (fun v4_1 => ?_)
    refine Fin.cons (fun v4_2 => ?_)
    refine Fin.cons (fun v4_3 => ?_)
    refine Fin.cons (fun v4_4 => ?_)
    refine Fin.cons (fun v4_5 => ?_)
    refine Fin.cons (fun v4_6 => ?_)
    refine Fin.cons (fun v4_7 => ?_)
    refine Fin.cons (fun v4_8 => ?_)
    refine Fin.cons (fun v4_9 => ?_)
    refine Fin.cons (fun v4_10 => ?_)
    refine Fin.cons (fun v4_11 => ?_)
    refine Fin.cons (fun v4_12 => ?_)
    refine Fin.cons (fun v4_13 => ?_)
    refine Fin.cons (fun v4_14 => ?_)
    refine Fin.cons (fun v4_15 => ?_)
    refine Fin.cons (fun v4_16 => ?_)
    refine Fin.cons (fun v4_17 => ?_)
    refine Fin.cons (fun v4_18 => ?_)
    refine Fin.cons (fun v4_19 => ?_)
    refine Fin.cons (fun v4_20 => ?_)
    refine Fin.cons (fun v4_21 => ?_)
    refine Fin.cons (fun v4_22 => ?_)
    refine Fin.cons (fun v4_23 => ?_)
    refine Fin.cons (fun v4_24 => ?_)
    refine Fin.cons (fun v4_25 => ?_)
    refine Fin.cons (fun v4_26 => ?_)
    refine Fin.cons (fun v4_27 => ?_)
    refine Fin.cons (fun v4_28 => ?_)
    refine Fin.cons (fun v4_29 => ?_)
    refine Fin.cons (fun v4_30 => ?_)
    refine Fin.cons (fun v4_31 => ?_)
    refine Fin.cons (fun v4_32 => ?_)
    refine Fin.cons (fun v4_33 => ?_)
    refine Fin.cons (fun v4_34 => ?_)
    refine Fin.cons (fun v4_35 => ?_)
    refine Fin.cons (fun v4_36 => ?_)
    refine Fin.cons (fun v4_37 => ?_)
    refine Fin.cons (fun v4_38 => ?_)
    refine Fin.cons (fun v4_39 => ?_)
    refine Fin.cons (fun v4_40 => ?_)
    refine Fin.nil ?_
    refine J.prE (fun h => ?_); subst h
    refine J.prE (fun h => ?_); subst h
    refine J.prE (fun h => ?_); subst h
    refine J.prE (fun h => ?_); subst h
    refine J.prE (fun h => ?_); subst h
    refine J.prE (fun h => ?_); subst h
    refine J.prE (fun h => ?_); subst h
    refine J.prE (fun h => ?_); subst h
    refine J.prE (fun h => ?_); subst h
    refine J.prE (fun h => ?_); subst h
    refine J.prE (fun h => ?_); subst h
    refine J.prE (fun h => ?_); subst h
    refine J.prE (fun h => ?_); subst h
    refine J.prE (fun h => ?_); subst h
    refine J.prE (fun h => ?_); subst h
    refine J.prE (fun h => ?_); subst h
    refine J.prE (fun h => ?_); subst h
    refine J.prE (fun h => ?_); subst h
    refine J.prE (fun h => ?_); subst h
    refine J.prE (fun h => ?_); subst h
    refine J.prE (fun h => ?_); subst h
    refine J.prE (fun h => ?_); subst h
    refine J.prE (fun h => ?_); subst h
    refine J.prE (fun h => ?_); subst h
    refine J.prE (fun h => ?_); subst h
    refine J.prE (fun h => ?_); subst h
    refine J.prE (fun h => ?_); subst h
    refine J.prE (fun h => ?_); subst h
    refine J.prE (fun h => ?_); subst h
    refine J.prE (fun h => ?_); subst h
    refine J.prE (fun h => ?_); subst h
    refine J.prE (fun h => ?_); subst h
    refine J.prE (fun h => ?_); subst h
    refine J.prE (fun h => ?_); subst h
    refine J.prE (fun h => ?_); subst h
    refine J.prE (fun h => ?_); subst h
    refine J.prE (fun h => ?_); subst h
    refine J.prE (fun h => ?_); subst h
    refine J.prE (fun h => ?_); subst h
    refine J.prE (fun h => ?_); subst h
    refine J.prE (fun h => ?_); subst h
    refine J.assign rfl rfl ?_
    refine J.nil ?_
    refine JX.thenN (hK4 _ _ ?_)
    refine JC.ret ?_
    refine JX.ret1 rfl rfl (fun w hw => ?_)
    exact ⟨rfl, (hw.drop (List.nil_sublist _)).below⟩

theorem tableNil_walk (w : World) (xc : List Value) (xe : EV) (hx : REnt w xc xe) (n : Int) (hn : (Lit.int .i64 n).wf = true) :
    Calls Try.prog 11 [.agg xc.toArray, .int .i64 n].toArray w fun r w' => r = .returned (.bool true) ∧ Bel w w' := by
  obtain ⟨rfl, _⟩ := hx
  exact tableNil_spec xe n w

end Go.Proofs.Ytpldpkdlloolkaa
