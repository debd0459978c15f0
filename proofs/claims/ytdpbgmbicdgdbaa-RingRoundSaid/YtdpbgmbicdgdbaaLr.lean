/-
  RingRound: the walk.
-/
import Derived.Test.YtdpbgmbicdgdbaaLo
namespace Go.Proofs.Ytdpbgmbicdgdbaa
open Go.J Go.RowKit
set_option linter.unusedVariables false
set_option linter.unusedSimpArgs false
set_option maxRecDepth 4000
theorem fixed_none {ys : List IDV} (h : ys.length = 0) (x : IDV) : nextO x ys = none := by
  rw [List.eq_nil_of_length_eq_zero h]
  exact nextO_none fun _ h => by cases h

set_option maxHeartbeats 1000000 in
theorem rounds_spec (v : Value) (xs : List IDV) (w : World) (hr : Row w v xs.length (fI xs)) :
    Calls Try.prog 7 [v].toArray w fun r w' => r = .returned (.bool true) ∧ Bel w w' := by
  refine calls_of_J (args := [v]) (e := [(0, v)]) Try.func7 rfl rfl ⟨rfl, trivial⟩ (St.start w) ?_
  refine JC.seq (fun K0 hK0 => ?_)
  refine JC.region ?_
  refine J.assign rfl rfl ?_
  refine J.nil ?_
  refine JX.thenN (hK0 _ _ ?_)
  refine JC.seq (fun K1 hK1 => ?_)
  refine JC.region ?_
  refine J.move rfl rfl ?_
  refine J.callB (v := cutV v (min xs.length 60)) (fun w1 w2 hw hb => hw.step hb) Ty.bd14 rfl rfl (fun w1 hw => cut_spec v xs 60 w1 (hr.below (hw.drop (List.nil_sublist _)).below)) ?_
  have hr2 := row_cut hr 60
  have hyl : (xs.take 60).length ≤ 60 := by rw [List.length_take]; omega
  generalize cutV v (min xs.length 60) = v2 at hr2 ⊢
  generalize xs.take 60 = ys at hr2 hyl ⊢
  obtain ⟨a2, c2, rfl, hc2, _⟩ := id hr2
  refine J.assign rfl rfl ?_
  refine J.nil ?_
  refine JX.thenN (hK1 _ _ ?_)
  refine JC.seq (fun K2 hK2 => ?_)
  refine JC.seq (fun K3 hK3 => ?_)
  refine JC.region ?_
  refine J.move rfl rfl ?_
  refine J.lenS rfl Ty.u24 rfl rfl ?_
  refine J.bin rfl rfl rfl rfl ?_
  refine J.nil ?_
  refine JX.thenN (hK3 _ _ ?_)
  refine JC.cond rfl (fun h0 => ?_) (fun h0 => ?_)
  · skip
    have hz0 : ys.length = 0 := by simp at h0; simp [h0]
    have hno := fixed_none hz0 zI
    refine JC.seq (fun K4 hK4 => ?_)
    refine JC.region ?_
    refine J.buildA (cs := cI zI) Ty.ar23 Ty.s5 Ty.z23 rfl (by kernel_rfl) rfl ?_
    refine J.move rfl rfl ?_
    refine J.callB (v := .tuple #[.agg (cI zI).toArray, .bool false]) (fun w1 w2 hw hb => hw.step hb) Ty.bd22 rfl rfl (fun w1 hw => by
      have h := next_spec zI _ ys w1 (hr2.below (hw.drop (List.nil_sublist _)).below) (by omega)
      rw [hno] at h
      exact h) ?_
    refine J.move rfl rfl ?_
    refine J.extract rfl rfl rfl ?_
    refine J.extract rfl rfl rfl ?_
    refine J.alloc Ty.zID rfl rfl (fun b3 => ?_)
    refine J.storeW (cs := cI zI) (vs := cI zI) Ty.s23 rfl rfl rfl rfl rfl (by simp [Value.oneCell']) .here ?_
    refine J.assign rfl rfl ?_
    refine J.nil ?_
    refine JX.thenN (hK4 _ _ ?_)
    refine JC.seq (fun K5 hK5 => ?_)
    refine JC.region ?_
    refine J.callB (v := .bool true) (fun w1 w2 hw hb => hw.step hb) Ty.bd18 rfl rfl (fun w1 hw => fixed10_spec w1) ?_
    refine J.move rfl rfl ?_
    first
      | (refine J.skip rfl rfl rfl rfl rfl ?_)
      | (refine J.skipU rfl rfl rfl rfl ?_)
      | (refine J.unguard rfl rfl rfl ?_; refine J.move rfl rfl ?_)
    first
      | (refine J.skip rfl rfl rfl rfl rfl ?_)
      | (refine J.skipU rfl rfl rfl rfl ?_)
      | (refine J.unguard rfl rfl rfl ?_; refine J.not rfl rfl ?_)
    (first | refine J.pickT rfl rfl rfl ?_ | refine J.pickF rfl rfl rfl ?_)
    refine J.assign rfl rfl ?_
    refine J.nil ?_
    refine JX.thenN (hK5 _ _ ?_)
    refine JC.ret ?_
    refine JX.thenR ?_
    refine JX.ret1 rfl rfl (fun w hw => ?_)
    exact ⟨rfl, (hw.drop (List.nil_sublist _)).below⟩
  · skip
    have hne0 : 0 < ys.length := by
      rcases Nat.eq_zero_or_pos ys.length with h | h
      · simp [h] at h0
      · exact h
    have i : Nat := 0
    have hfys := fI_length ys
    have hcl := (Row.some hr2 (by omega))
    obtain ⟨q1, o1, c2', hqe, _, _⟩ := hcl
    simp only [Value.slice.injEq] at hqe
    obtain ⟨rfl, _, rfl⟩ := hqe
    obtain ⟨me0, hme⟩ : ∃ x, ys[0]? = some x := ⟨_, List.getElem?_eq_getElem hne0⟩
    refine JC.skip ?_
    refine JX.thenN (hK2 _ _ ?_)
    refine JC.seq (fun K6 hK6 => ?_)
    refine JC.region ?_
    refine J.move rfl rfl ?_
    refine J.indexAddrS Ty.el24 Ty.s23 rfl rfl (by omega) (by omega) rfl ?_
    refine J.loadA (vs := cI me0) Ty.a23 Ty.s23 rfl rfl (fun w1 hw => rowF_at (hr2.below (hw.drop (List.nil_sublist _)).below) hme (by omega)) rfl ?_
    refine J.move rfl rfl ?_
    refine J.perm ([] ++ []) (.refl _) ?_
    refine J.callS (α := Value × List (Nat × Obj)) (V := (·.1)) (Pr := fun x => Vec 23 16 x.1 (sortI ys me0).length (fI (sortI ys me0)) x.2) (L := (·.2)) (l1 := []) Ty.bd21 rfl rfl (fun w1 hw => rsorted_spec me0 _ ys w1 (hr2.below (hw.drop (List.nil_sublist _)).below) (by omega)) (fun x hvs => ?_)
    obtain ⟨vs, ls⟩ := x
    simp only [List.append_nil] at hvs ⊢
    have hsl := sortI_le ys me0
    obtain ⟨as_, cs, rfl, hcs⟩ := hvs.form
    refine J.assign rfl rfl ?_
    refine J.nil ?_
    refine JX.thenN (hK6 _ _ ?_)
    refine JC.seq (fun K7 hK7 => ?_)
    refine JC.region ?_
    refine J.move rfl rfl ?_
    refine J.indexAddrS Ty.el24 Ty.s23 rfl rfl (by omega) (by omega) rfl ?_
    refine J.loadA (vs := cI me0) Ty.a23 Ty.s23 rfl rfl (fun w1 hw => rowF_at (hr2.below (hw.drop (List.nil_sublist _)).below) hme (by omega)) rfl ?_
    refine J.alloc Ty.zID rfl rfl (fun b6 => ?_)
    refine J.storeW (cs := cI zI) (vs := cI me0) Ty.s23 rfl rfl rfl rfl rfl (by simp [Value.oneCell']) .here ?_
    refine J.nil ?_
    refine JX.thenN (hK7 _ _ ?_)
    refine JC.seq (fun K8 hK8 => ?_)
    refine JC.seq (fun K9 hK9 => ?_)
    refine JC.region ?_
    refine J.move rfl rfl ?_
    refine J.lenS rfl Ty.u24 rfl rfl ?_
    refine J.move rfl rfl ?_
    refine J.nil ?_
    refine JX.thenN (hK9 _ _ ?_)
    refine JC.block ?_
    refine JC.conseq (JC.cov (f := (fun st => [(0, .slice (some ⟨q1, o1, none⟩) ys.length c2), (5, .slice as_ (sortI ys me0).length cs), (6, .pointer (some ⟨b6, 0, none⟩)), (36, .int .i64 (((sortI ys me0).length : Nat) : Int)), (37, .int .i64 ((st.2 : Nat) : Int))]) ((me0, 0) : IDV × Nat)) ⟨rfl, rfl, rfl, rfl, rfl, trivial⟩ (JC.loop (α := IDV × Nat) (fun st => [(0, .slice (some ⟨q1, o1, none⟩) ys.length c2), (5, .slice as_ (sortI ys me0).length cs), (6, .pointer (some ⟨b6, 0, none⟩)), (36, .int .i64 (((sortI ys me0).length : Nat) : Int)), (37, .int .i64 ((st.2 : Nat) : Int))]) (fun st w' => ((st.2 ≤ (sortI ys me0).length ∧ st.1 ∈ ys) ∧ cntR me0 ys st.1 = st.2) ∧ St w [] ((b6, cb (cI st.1) 23) :: ls) w') (fun st => (sortI ys me0).length - st.2) ((me0, 0) : IDV × Nat) (fun st => ?_))) (fun w hw => ⟨⟨⟨Nat.zero_le _, List.mem_of_getElem? hme⟩, cntR_me me0 ys⟩, hw⟩)
    obtain ⟨at_, j⟩ := st
    refine JC.pr (fun hx => ?_)
    obtain ⟨⟨hj, hat⟩, hcnt⟩ := hx
    simp only at hj hat hcnt ⊢
    refine JC.seq (fun K10 hK10 => ?_)
    refine JC.region ?_
    refine J.bin rfl rfl rfl rfl ?_
    refine J.nil ?_
    refine JX.thenN (hK10 _ _ ?_)
    refine JC.seq (fun K11 hK11 => ?_)
    refine JC.cond rfl (fun h1 => ?_) (fun h1 => ?_)
    · skip
      have hlt : j < (sortI ys me0).length := by simp at h1; omega
      refine JC.skip ?_
      refine JX.thenN (hK11 _ _ ?_)
      refine JC.seq (fun K12 hK12 => ?_)
      refine JC.block ?_
      refine JC.seq (fun K13 hK13 => ?_)
      obtain ⟨nx, hno, hnm0, hnm, hnc⟩ := round_step (me := me0) (at_ := at_) (xs := ys) (by omega)
      refine JC.region ?_
      refine J.loadA (vs := cI at_) Ty.a23 Ty.s23 rfl rfl (fun w1 hw => Cells.of_block (hw.own _ (.head _)) rfl) rfl ?_
      refine J.move rfl rfl ?_
      refine J.callB (v := .tuple #[.agg (cI nx).toArray, .bool true]) (fun w1 w2 hw hb => hw.step hb) Ty.bd22 rfl rfl (fun w1 hw => by
        have h := next_spec at_ _ ys w1 (hr2.below (hw.drop (List.nil_sublist _)).below) (by omega)
        rw [hno] at h
        exact h) ?_
      refine J.move rfl rfl ?_
      refine J.extract rfl rfl rfl ?_
      refine J.extract rfl rfl rfl ?_
      refine J.alloc Ty.zID rfl rfl (fun b7 => ?_)
      refine J.storeW (cs := cI zI) (vs := cI nx) Ty.s23 rfl rfl rfl rfl rfl (by simp [Value.oneCell']) .here ?_
      refine J.assign rfl rfl ?_
      refine J.nil ?_
      refine JX.thenN (hK13 _ _ ?_)
      refine JC.seq (fun K14 hK14 => ?_)
      refine JC.seq (fun K15 hK15 => ?_)
      apply JC.drawL 15 [Eqv (.bool true), Eqv (.bool false), Eqv (.bool false), Eqv (.agg (cI nx).toArray), Eqv (.slice (some ⟨q1, o1, none⟩) ys.length c2), Eqv (.pointer (some ⟨q1, o1 + (0 : Int).toNat * 16, none⟩)), Eqv (.agg (cI me0).toArray), Eqv (.bool false), Eqv (.bool false), Eqv (.bool false), Eqv (.slice as_ (sortI ys me0).length cs), Eqv (.agg (cI nx).toArray), Eqv (.bool true), Eqv (.bool false), Eqv (.bool false)] Ty.mixed rfl rfl rfl (by kernel_rfl) rfl rfl (fun w w' hw hb => hw.step hb) ⟨fun _ _ _ h _ => h, fun _ _ _ h _ => h, fun _ _ _ h _ => h, fun _ _ _ h _ => h, fun _ _ _ h _ => h, fun _ _ _ h _ => h, fun _ _ _ h _ => h, fun _ _ _ h _ => h, fun _ _ _ h _ => h, fun _ _ _ h _ => h, fun _ _ _ h _ => h, fun _ _ _ h _ => h, fun _ _ _ h _ => h, fun _ _ _ h _ => h, fun _ _ _ h _ => h, trivial⟩ ?hstep ?htail
      case hstep =>
        refine ⟨fun wi => ?_, fun wi => ?_, fun wi => ?_, fun wi => ?_, fun wi => ?_, fun wi => ?_, fun wi => ?_, fun wi => ?_, fun wi => ?_, fun wi => ?_, fun wi => ?_, fun wi => ?_, fun wi => ?_, fun wi => ?_, fun wi => ?_, trivial⟩
        · skip
          refine Fin.nil ?_
          refine J.move rfl rfl ?_
          refine J.nil (JX.fin rfl (fun w hw => ⟨rfl, (by rw [hw.1]; exact Bel.refl _)⟩))
        · skip
          refine Fin.cons (fun v10_0 => ?_)
          refine Fin.nil ?_
          refine J.prE (fun h => ?_); subst h
          refine J.not rfl rfl ?_
          refine J.nil (JX.fin rfl (fun w hw => ⟨rfl, (by rw [hw.1]; exact Bel.refl _)⟩))
        · skip
          refine Fin.cons (fun v10_1 => ?_)
          refine Fin.nil ?_
          refine J.prE (fun h => ?_); subst h
          refine J.move rfl rfl ?_
          refine J.nil (JX.fin rfl (fun w hw => ⟨rfl, (by rw [hw.1]; exact Bel.refl _)⟩))
        · skip
          refine Fin.cons (fun v10_2 => ?_)
          refine Fin.nil ?_
          refine J.prE (fun h => ?_); subst h
          refine J.unguard rfl rfl rfl ?_
          refine J.loadA (vs := cI nx) Ty.a23 Ty.s23 rfl rfl (fun w1 hw => Cells.of_block (hw.2.own _ (.head _)) rfl) rfl ?_
          refine J.nil (JX.fin rfl (fun w hw => ⟨rfl, (by rw [hw.1]; exact Bel.refl _)⟩))
        · skip
          refine Fin.cons (fun v10_2 => ?_)
          refine Fin.nil ?_
          refine J.prE (fun h => ?_); subst h
          first
            | (refine J.skip rfl rfl rfl rfl rfl ?_)
            | (refine J.skipU rfl rfl rfl rfl ?_)
            | (refine J.unguard rfl rfl rfl ?_; refine J.move rfl rfl ?_)
          refine J.nil (JX.fin rfl (fun w hw => ⟨rfl, (by rw [hw.1]; exact Bel.refl _)⟩))
        · skip
          refine Fin.cons (fun v10_4 => ?_)
          refine Fin.cons (fun v10_2 => ?_)
          refine Fin.nil ?_
          refine J.prE (fun h => ?_); subst h
          refine J.prE (fun h => ?_); subst h
          refine J.unguard rfl rfl rfl ?_
          refine J.indexAddrS Ty.el24 Ty.s23 rfl rfl (by omega) (by omega) rfl ?_
          refine J.nil (JX.fin rfl (fun w hw => ⟨rfl, (by rw [hw.1]; exact Bel.refl _)⟩))
        · skip
          refine Fin.cons (fun v10_5 => ?_)
          refine Fin.cons (fun v10_2 => ?_)
          refine Fin.nil ?_
          refine J.prE (fun h => ?_); subst h
          refine J.prE (fun h => ?_); subst h
          refine J.unguard rfl rfl rfl ?_
          refine J.loadA (vs := cI me0) Ty.a23 Ty.s23 rfl rfl (fun w1 hw => rowF_at (hr2.below (hw.2.drop (List.nil_sublist _)).below) hme (by omega)) rfl ?_
          refine J.nil (JX.fin rfl (fun w hw => ⟨rfl, (by rw [hw.1]; exact Bel.refl _)⟩))
        · skip
          refine Fin.cons (fun v10_3 => ?_)
          refine Fin.cons (fun v10_6 => ?_)
          refine Fin.cons (fun v10_2 => ?_)
          refine Fin.nil ?_
          refine J.prE (fun h => ?_); subst h
          refine J.prE (fun h => ?_); subst h
          refine J.prE (fun h => ?_); subst h
          refine J.unguard rfl rfl rfl ?_
          refine J.eqI Ty.QI Ty.keyI rfl rfl rfl ?_
          refine J.name 52 rfl (show _ = Value.bool false by simp [hnm0]) ?_
          refine J.nil (JX.fin rfl (fun w hw => ⟨rfl, (by rw [hw.1]; exact Bel.refl _)⟩))
        · skip
          refine Fin.cons (fun v10_2 => ?_)
          refine Fin.cons (fun v10_7 => ?_)
          refine Fin.nil ?_
          refine J.prE (fun h => ?_); subst h
          refine J.prE (fun h => ?_); subst h
          (first | refine J.pickT rfl rfl rfl ?_ | refine J.pickF rfl rfl rfl ?_)
          refine J.nil (JX.fin rfl (fun w hw => ⟨rfl, (by rw [hw.1]; exact Bel.refl _)⟩))
        · skip
          refine Fin.cons (fun v10_8 => ?_)
          refine Fin.cons (fun v10_2 => ?_)
          refine Fin.nil ?_
          refine J.prE (fun h => ?_); subst h
          refine J.prE (fun h => ?_); subst h
          refine J.move rfl rfl ?_
          refine J.nil (JX.fin rfl (fun w hw => ⟨rfl, (by rw [hw.1]; exact Bel.refl _)⟩))
        · skip
          refine Fin.cons (fun v10_9 => ?_)
          refine Fin.nil ?_
          refine J.prE (fun h => ?_); subst h
          first
            | (refine J.skip rfl rfl rfl rfl rfl ?_)
            | (refine J.skipU rfl rfl rfl rfl ?_)
            | (refine J.unguard rfl rfl rfl ?_; refine J.move rfl rfl ?_)
          refine J.nil (JX.fin rfl (fun w hw => ⟨rfl, (by rw [hw.1]; exact Bel.refl _)⟩))
        · skip
          refine Fin.cons (fun v10_9 => ?_)
          refine Fin.nil ?_
          refine J.prE (fun h => ?_); subst h
          refine J.unguard rfl rfl rfl ?_
          refine J.loadA (vs := cI nx) Ty.a23 Ty.s23 rfl rfl (fun w1 hw => Cells.of_block (hw.2.own _ (.head _)) rfl) rfl ?_
          refine J.nil (JX.fin rfl (fun w hw => ⟨rfl, (by rw [hw.1]; exact Bel.refl _)⟩))
        · skip
          refine Fin.cons (fun v10_10 => ?_)
          refine Fin.cons (fun v10_11 => ?_)
          refine Fin.cons (fun v10_9 => ?_)
          refine Fin.cons (fun v10_9 => ?_)
          refine Fin.nil ?_
          refine J.prE (fun h => ?_); subst h
          refine J.prE (fun h => ?_); subst h
          refine J.prE (fun h => ?_); subst h
          refine J.prE (fun h => ?_); subst h
          refine J.unguard rfl rfl rfl ?_
          refine J.callD (v := .bool true) Ty.bd25 rfl rfl (fun w1 hw => by
            have h := rhas_spec _ (sortI ys me0) nx w1 (hvs.rowM hw (fun q hq => by simp [hq])) (by omega)
            simpa [hnm] using h) ?_
          refine J.nil (JX.fin rfl (fun w hw => ⟨rfl, hw⟩))
        · skip
          refine Fin.cons (fun v10_12 => ?_)
          refine Fin.cons (fun v10_9 => ?_)
          refine Fin.nil ?_
          refine J.prE (fun h => ?_); subst h
          refine J.prE (fun h => ?_); subst h
          first
            | (refine J.skip rfl rfl rfl rfl rfl ?_)
            | (refine J.skipU rfl rfl rfl rfl ?_)
            | (refine J.unguard rfl rfl rfl ?_; refine J.not rfl rfl ?_)
          refine J.nil (JX.fin rfl (fun w hw => ⟨rfl, (by rw [hw.1]; exact Bel.refl _)⟩))
        · skip
          refine Fin.cons (fun v10_9 => ?_)
          refine Fin.cons (fun v10_13 => ?_)
          refine Fin.nil ?_
          refine J.prE (fun h => ?_); subst h
          refine J.prE (fun h => ?_); subst h
          (first | refine J.pickT rfl rfl rfl ?_ | refine J.pickF rfl rfl rfl ?_)
          refine J.nil (JX.fin rfl (fun w hw => ⟨rfl, (by rw [hw.1]; exact Bel.refl _)⟩))
      case htail =>
        refine Fin.cons (fun v10_0 => ?_)
        refine Fin.cons (fun v10_1 => ?_)
        refine Fin.cons (fun v10_2 => ?_)
        refine Fin.cons (fun v10_3 => ?_)
        refine Fin.cons (fun v10_4 => ?_)
        refine Fin.cons (fun v10_5 => ?_)
        refine Fin.cons (fun v10_6 => ?_)
        refine Fin.cons (fun v10_7 => ?_)
        refine Fin.cons (fun v10_8 => ?_)
        refine Fin.cons (fun v10_9 => ?_)
        refine Fin.cons (fun v10_10 => ?_)
        refine Fin.cons (fun v10_11 => ?_)
        refine Fin.cons (fun v10_12 => ?_)
        refine Fin.cons (fun v10_13 => ?_)
        refine Fin.cons (fun v10_14 => ?_)
        refine Fin.nil ?_
        refine J.prE (fun h => ?_); subst h
        refine J.prE (fun h => ?_); subst h
        refine J.prE (fun h => ?_); subst h
        refine J.prE (fun h => ?_); subst h
        refine J.prE (fun h => ?_); subst h
        refine J.prE (fun h => ?_); subst h
        refine J.prE (fun h => ?_); subst h
        refine J.prE (fun h => ?_); subst h
        refine J.prE (fun h => ?_); subst h
        refine J.prE (fun h => ?_); subst h
        refine J.prE (fun h => ?_); subst h
        refine J.prE (fun h => ?_); subst h
        refine J.prE (fun h => ?_); subst h
        refine J.prE (fun h => ?_); subst h
        refine J.prE (fun h => ?_); subst h
        refine J.nil ?_
        refine JX.thenN (hK15 _ _ ?_)
        first | refine JC.condF rfl ?_ | refine JC.cond rfl (fun h => by first | (exfalso; simp at h; omega) | (simp at h)) (fun _ => ?_)
        refine JC.skip ?_
        refine JX.thenN (hK14 _ _ ?_)
        refine JC.region ?_
        refine J.loadA (vs := cI nx) Ty.a23 Ty.s23 rfl rfl (fun w1 hw => Cells.of_block (hw.own _ (.head _)) rfl) rfl ?_
        refine J.storeW (cs := cI at_) (vs := cI nx) Ty.s23 rfl rfl rfl rfl rfl (by simp [Value.oneCell']) (.there .here) ?_
        refine J.nil ?_
        refine JX.blockN ?_
        refine JX.thenN (hK12 _ _ ?_)
        refine JC.region ?_
        (first | refine J.addN rfl rfl (by omega) (by omega) rfl ?_ | refine J.bin rfl rfl rfl rfl ?_)
        refine J.move rfl rfl ?_
        refine J.nil ?_
        refine JX.thenN ?_
        refine JX.again ((nx, j + 1) : IDV × Nat) ?_ ?_ ?_
        · simp only; omega
        · exact ⟨rfl, rfl, rfl, rfl, rfl, trivial⟩
        · exact fun w1 hw => ⟨⟨⟨hlt, ((sortI_mem ys me0 nx).1 hnm).1⟩, by rw [hnc, hcnt]⟩, hw.drop (List.sublist_cons_self _ _)⟩
    · skip
      have hge : j = (sortI ys me0).length := by simp at h1; omega
      refine JC.exit ?_
      refine JX.thenE ?_
      refine JX.thenE ?_
      refine JX.blockE ?_
      refine JX.thenN (hK8 _ _ ?_)
      refine JC.seq (fun K16 hK16 => ?_)
      have hend := round_end (me := me0) (at_ := at_) (List.mem_of_getElem? hme) hat (by omega)
      by_cases hz : (sortI ys me0).length = 0
      · skip
        rw [if_pos hz] at hend
        refine JC.region ?_
        refine J.loadA (vs := cI at_) Ty.a23 Ty.s23 rfl rfl (fun w1 hw => Cells.of_block (hw.own _ (.head _)) rfl) rfl ?_
        refine J.move rfl rfl ?_
        refine J.callB (v := .tuple #[.agg (cI zI).toArray, .bool false]) (fun w1 w2 hw hb => hw.step hb) Ty.bd22 rfl rfl (fun w1 hw => by
          have h := next_spec at_ _ ys w1 (hr2.below (hw.drop (List.nil_sublist _)).below) (by omega)
          rw [hend] at h
          exact h) ?_
        refine J.move rfl rfl ?_
        refine J.extract rfl rfl rfl ?_
        refine J.extract rfl rfl rfl ?_
        refine J.alloc Ty.zID rfl rfl (fun b9 => ?_)
        refine J.storeW (cs := cI zI) (vs := cI zI) Ty.s23 rfl rfl rfl rfl rfl (by simp [Value.oneCell']) .here ?_
        refine J.assign rfl rfl ?_
        refine J.nil ?_
        refine JX.thenN (hK16 _ _ ?_)
        refine JC.seq (fun K17 hK17 => ?_)
        apply JC.drawL 19 [Eqv (.bool true), Eqv (.bool true), Eqv (.bool false), Eqv (.slice as_ (sortI ys me0).length cs), Eqv (.int .i64 (((sortI ys me0).length : Nat) : Int)), Eqv (.bool false), Eqv (.bool true), Eqv (.bool true), Eqv (.bool true), Eqv (.bool false), Eqv (.bool true), Eqv (.bool true), Eqv (undef), Eqv (undef), Eqv (undef), Eqv (undef), Eqv (undef), Eqv (.bool true), Eqv (.bool true)] Ty.mixed rfl rfl rfl (by kernel_rfl) rfl rfl (fun w w' hw hb => hw.step hb) ⟨fun _ _ _ h _ => h, fun _ _ _ h _ => h, fun _ _ _ h _ => h, fun _ _ _ h _ => h, fun _ _ _ h _ => h, fun _ _ _ h _ => h, fun _ _ _ h _ => h, fun _ _ _ h _ => h, fun _ _ _ h _ => h, fun _ _ _ h _ => h, fun _ _ _ h _ => h, fun _ _ _ h _ => h, fun _ _ _ h _ => h, fun _ _ _ h _ => h, fun _ _ _ h _ => h, fun _ _ _ h _ => h, fun _ _ _ h _ => h, fun _ _ _ h _ => h, fun _ _ _ h _ => h, trivial⟩ ?hstep ?htail
        case hstep =>
          refine ⟨fun wi => ?_, fun wi => ?_, fun wi => ?_, fun wi => ?_, fun wi => ?_, fun wi => ?_, fun wi => ?_, fun wi => ?_, fun wi => ?_, fun wi => ?_, fun wi => ?_, fun wi => ?_, fun wi => ?_, fun wi => ?_, fun wi => ?_, fun wi => ?_, fun wi => ?_, fun wi => ?_, fun wi => ?_, trivial⟩
          · skip
            refine Fin.nil ?_
            refine J.callD (v := .bool true) Ty.bd18 rfl rfl (fun w1 hw => fixed10_spec w1) ?_
            refine J.nil (JX.fin rfl (fun w hw => ⟨rfl, hw⟩))
          · skip
            refine Fin.cons (fun v15_0 => ?_)
            refine Fin.cons (fun v15_0 => ?_)
            refine Fin.nil ?_
            refine J.prE (fun h => ?_); subst h
            refine J.prE (fun h => ?_); subst h
            refine J.move rfl rfl ?_
            refine J.nil (JX.fin rfl (fun w hw => ⟨rfl, (by rw [hw.1]; exact Bel.refl _)⟩))
          · skip
            refine Fin.cons (fun v15_1 => ?_)
            refine Fin.nil ?_
            refine J.prE (fun h => ?_); subst h
            first
              | (refine J.skip rfl rfl rfl rfl rfl ?_)
              | (refine J.skipU rfl rfl rfl rfl ?_)
              | (refine J.unguard rfl rfl rfl ?_; refine J.move rfl rfl ?_)
            refine J.nil (JX.fin rfl (fun w hw => ⟨rfl, (by rw [hw.1]; exact Bel.refl _)⟩))
          · skip
            refine Fin.cons (fun v15_1 => ?_)
            refine Fin.nil ?_
            refine J.prE (fun h => ?_); subst h
            first
              | (refine J.skip rfl rfl rfl rfl rfl ?_)
              | (refine J.skipU rfl rfl rfl rfl ?_)
              | (refine J.unguard rfl rfl rfl ?_; refine J.move rfl rfl ?_)
            refine J.nil (JX.fin rfl (fun w hw => ⟨rfl, (by rw [hw.1]; exact Bel.refl _)⟩))
          · skip
            refine Fin.cons (fun v15_3 => ?_)
            refine Fin.cons (fun v15_1 => ?_)
            refine Fin.nil ?_
            refine J.prE (fun h => ?_); subst h
            refine J.prE (fun h => ?_); subst h
            first
              | (refine J.skip rfl rfl rfl rfl rfl ?_)
              | (refine J.skipU rfl rfl rfl rfl ?_)
              | (refine J.unguard rfl rfl rfl ?_; refine J.lenS rfl Ty.u24 rfl rfl ?_)
            refine J.nil (JX.fin rfl (fun w hw => ⟨rfl, (by rw [hw.1]; exact Bel.refl _)⟩))
          · skip
            refine Fin.cons (fun v15_4 => ?_)
            refine Fin.cons (fun v15_1 => ?_)
            refine Fin.nil ?_
            refine J.prE (fun h => ?_); subst h
            refine J.prE (fun h => ?_); subst h
            refine J.unguard rfl rfl rfl ?_
            refine J.bin rfl rfl rfl rfl ?_
            refine J.name 73 rfl (show _ = Value.bool false by simp [hz]) ?_
            refine J.nil (JX.fin rfl (fun w hw => ⟨rfl, (by rw [hw.1]; exact Bel.refl _)⟩))
          · skip
            refine Fin.cons (fun v15_2 => ?_)
            refine Fin.cons (fun v15_5 => ?_)
            refine Fin.cons (fun v15_1 => ?_)
            refine Fin.nil ?_
            refine J.prE (fun h => ?_); subst h
            refine J.prE (fun h => ?_); subst h
            refine J.prE (fun h => ?_); subst h
            refine J.unguard rfl rfl rfl ?_
            refine J.eqBool (.inl rfl) Ty.u4 rfl rfl rfl ?_
            refine J.nil (JX.fin rfl (fun w hw => ⟨rfl, (by rw [hw.1]; exact Bel.refl _)⟩))
          · skip
            refine Fin.cons (fun v15_1 => ?_)
            refine Fin.cons (fun v15_6 => ?_)
            refine Fin.nil ?_
            refine J.prE (fun h => ?_); subst h
            refine J.prE (fun h => ?_); subst h
            (first | refine J.pickT rfl rfl rfl ?_ | refine J.pickF rfl rfl rfl ?_)
            refine J.nil (JX.fin rfl (fun w hw => ⟨rfl, (by rw [hw.1]; exact Bel.refl _)⟩))
          · skip
            refine Fin.cons (fun v15_7 => ?_)
            refine Fin.cons (fun v15_1 => ?_)
            refine Fin.nil ?_
            refine J.prE (fun h => ?_); subst h
            refine J.prE (fun h => ?_); subst h
            refine J.move rfl rfl ?_
            refine J.nil (JX.fin rfl (fun w hw => ⟨rfl, (by rw [hw.1]; exact Bel.refl _)⟩))
          · skip
            refine Fin.cons (fun v15_8 => ?_)
            refine Fin.nil ?_
            refine J.prE (fun h => ?_); subst h
            first
              | (refine J.skip rfl rfl rfl rfl rfl ?_)
              | (refine J.skipU rfl rfl rfl rfl ?_)
              | (refine J.unguard rfl rfl rfl ?_; refine J.move rfl rfl ?_)
            refine J.nil (JX.fin rfl (fun w hw => ⟨rfl, (by rw [hw.1]; exact Bel.refl _)⟩))
          · skip
            refine Fin.cons (fun v15_9 => ?_)
            refine Fin.cons (fun v15_8 => ?_)
            refine Fin.nil ?_
            refine J.prE (fun h => ?_); subst h
            refine J.prE (fun h => ?_); subst h
            first
              | (refine J.skip rfl rfl rfl rfl rfl ?_)
              | (refine J.skipU rfl rfl rfl rfl ?_)
              | (refine J.unguard rfl rfl rfl ?_; refine J.not rfl rfl ?_)
            refine J.nil (JX.fin rfl (fun w hw => ⟨rfl, (by rw [hw.1]; exact Bel.refl _)⟩))
          · skip
            refine Fin.cons (fun v15_10 => ?_)
            refine Fin.cons (fun v15_8 => ?_)
            refine Fin.cons (fun v15_8 => ?_)
            refine Fin.nil ?_
            refine J.prE (fun h => ?_); subst h
            refine J.prE (fun h => ?_); subst h
            refine J.prE (fun h => ?_); subst h
            first
              | (refine J.skip rfl rfl rfl rfl rfl ?_)
              | (refine J.skipU rfl rfl rfl rfl ?_)
              | (refine J.unguard rfl rfl rfl ?_; refine J.move rfl rfl ?_)
            refine J.nil (JX.fin rfl (fun w hw => ⟨rfl, (by rw [hw.1]; exact Bel.refl _)⟩))
          · skip
            refine Fin.cons (fun v15_11 => ?_)
            refine Fin.nil ?_
            refine J.prE (fun h => ?_); subst h
            first
              | (refine J.skip rfl rfl rfl rfl rfl ?_)
              | (refine J.skipU rfl rfl rfl rfl ?_)
              | (refine J.unguard rfl rfl rfl ?_; (first | refine J.loadOA Ty.a23 Ty.s23 rfl (.head _) rfl rfl rfl ?_ | refine J.loadOA Ty.a23 Ty.s23 rfl (.tail _ (.head _)) rfl rfl rfl ?_ | refine J.loadOA Ty.a23 Ty.s23 rfl (.tail _ (.tail _ (.head _))) rfl rfl rfl ?_ | refine J.loadOA Ty.a23 Ty.s23 rfl (.tail _ (.tail _ (.tail _ (.head _)))) rfl rfl rfl ?_ | refine J.loadOA Ty.a23 Ty.s23 rfl (.tail _ (.tail _ (.tail _ (.tail _ (.head _))))) rfl rfl rfl ?_ | refine J.loadOA Ty.a23 Ty.s23 rfl (.tail _ (.tail _ (.tail _ (.tail _ (.tail _ (.head _)))))) rfl rfl rfl ?_ | refine J.loadOA Ty.a23 Ty.s23 rfl (.tail _ (.tail _ (.tail _ (.tail _ (.tail _ (.tail _ (.head _))))))) rfl rfl rfl ?_ | refine J.loadOA Ty.a23 Ty.s23 rfl (.tail _ (.tail _ (.tail _ (.tail _ (.tail _ (.tail _ (.tail _ (.head _)))))))) rfl rfl rfl ?_ | refine J.loadOA Ty.a23 Ty.s23 rfl (.tail _ (.tail _ (.tail _ (.tail _ (.tail _ (.tail _ (.tail _ (.tail _ (.head _))))))))) rfl rfl rfl ?_ | refine J.loadOA Ty.a23 Ty.s23 rfl (.tail _ (.tail _ (.tail _ (.tail _ (.tail _ (.tail _ (.tail _ (.tail _ (.tail _ (.head _)))))))))) rfl rfl rfl ?_ | refine J.loadOA Ty.a23 Ty.s23 rfl (.tail _ (.tail _ (.tail _ (.tail _ (.tail _ (.tail _ (.tail _ (.tail _ (.tail _ (.tail _ (.head _))))))))))) rfl rfl rfl ?_ | refine J.loadOA Ty.a23 Ty.s23 rfl (.tail _ (.tail _ (.tail _ (.tail _ (.tail _ (.tail _ (.tail _ (.tail _ (.tail _ (.tail _ (.tail _ (.head _)))))))))))) rfl rfl rfl ?_ | refine J.loadOA Ty.a23 Ty.s23 rfl (List.mem_append_right _ (.head _)) rfl rfl rfl ?_ | refine J.loadOA Ty.a23 Ty.s23 rfl (List.mem_append_right _ (.tail _ (.head _))) rfl rfl rfl ?_ | refine J.loadOA Ty.a23 Ty.s23 rfl (List.mem_append_right _ (.tail _ (.tail _ (.head _)))) rfl rfl rfl ?_ | refine J.loadOA Ty.a23 Ty.s23 rfl (List.mem_append_right _ (.tail _ (.tail _ (.tail _ (.head _))))) rfl rfl rfl ?_ | refine J.loadOA Ty.a23 Ty.s23 rfl (List.mem_append_right _ (.tail _ (.tail _ (.tail _ (.tail _ (.head _)))))) rfl rfl rfl ?_ | refine J.loadOA Ty.a23 Ty.s23 rfl (List.mem_append_right _ (.tail _ (.tail _ (.tail _ (.tail _ (.tail _ (.head _))))))) rfl rfl rfl ?_ | refine J.loadOA Ty.a23 Ty.s23 rfl (List.mem_append_right _ (.tail _ (.tail _ (.tail _ (.tail _ (.tail _ (.tail _ (.head _)))))))) rfl rfl rfl ?_ | refine J.loadOA Ty.a23 Ty.s23 rfl (List.mem_append_right _ (.tail _ (.tail _ (.tail _ (.tail _ (.tail _ (.tail _ (.tail _ (.head _))))))))) rfl rfl rfl ?_ | refine J.loadOA Ty.a23 Ty.s23 rfl (List.mem_append_right _ (.tail _ (.tail _ (.tail _ (.tail _ (.tail _ (.tail _ (.tail _ (.tail _ (.head _)))))))))) rfl rfl rfl ?_ | refine J.loadOA Ty.a23 Ty.s23 rfl (List.mem_append_right _ (.tail _ (.tail _ (.tail _ (.tail _ (.tail _ (.tail _ (.tail _ (.tail _ (.tail _ (.head _))))))))))) rfl rfl rfl ?_ | refine J.loadOA Ty.a23 Ty.s23 rfl (List.mem_append_right _ (.tail _ (.tail _ (.tail _ (.tail _ (.tail _ (.tail _ (.tail _ (.tail _ (.tail _ (.tail _ (.head _)))))))))))) rfl rfl rfl ?_ | refine J.loadOA Ty.a23 Ty.s23 rfl (List.mem_append_right _ (.tail _ (.tail _ (.tail _ (.tail _ (.tail _ (.tail _ (.tail _ (.tail _ (.tail _ (.tail _ (.tail _ (.head _))))))))))))) rfl rfl rfl ?_))
            refine J.nil (JX.fin rfl (fun w hw => ⟨rfl, (by rw [hw.1]; exact Bel.refl _)⟩))
          · skip
            refine Fin.cons (fun v15_11 => ?_)
            refine Fin.nil ?_
            refine J.prE (fun h => ?_); subst h
            first
              | (refine J.skip rfl rfl rfl rfl rfl ?_)
              | (refine J.skipU rfl rfl rfl rfl ?_)
              | (refine J.unguard rfl rfl rfl ?_; refine J.move rfl rfl ?_)
            refine J.nil (JX.fin rfl (fun w hw => ⟨rfl, (by rw [hw.1]; exact Bel.refl _)⟩))
          · skip
            refine Fin.cons (fun v15_13 => ?_)
            refine Fin.cons (fun v15_11 => ?_)
            refine Fin.nil ?_
            refine J.prE (fun h => ?_); subst h
            refine J.prE (fun h => ?_); subst h
            first
              | (refine J.skip rfl rfl rfl rfl rfl ?_)
              | (refine J.skipU rfl rfl rfl rfl ?_)
              | (refine J.unguard rfl rfl rfl ?_; refine J.indexAddrS Ty.el24 Ty.s23 rfl rfl (by omega) (by omega) rfl ?_)
            refine J.nil (JX.fin rfl (fun w hw => ⟨rfl, (by rw [hw.1]; exact Bel.refl _)⟩))
          · skip
            refine Fin.cons (fun v15_14 => ?_)
            refine Fin.cons (fun v15_11 => ?_)
            refine Fin.nil ?_
            refine J.prE (fun h => ?_); subst h
            refine J.prE (fun h => ?_); subst h
            first
              | (refine J.skip rfl rfl rfl rfl rfl ?_)
              | (refine J.skipU rfl rfl rfl rfl ?_)
              | (refine J.unguard rfl rfl rfl ?_; (first | refine J.loadOA Ty.a23 Ty.s23 rfl (.head _) rfl rfl rfl ?_ | refine J.loadOA Ty.a23 Ty.s23 rfl (.tail _ (.head _)) rfl rfl rfl ?_ | refine J.loadOA Ty.a23 Ty.s23 rfl (.tail _ (.tail _ (.head _))) rfl rfl rfl ?_ | refine J.loadOA Ty.a23 Ty.s23 rfl (.tail _ (.tail _ (.tail _ (.head _)))) rfl rfl rfl ?_ | refine J.loadOA Ty.a23 Ty.s23 rfl (.tail _ (.tail _ (.tail _ (.tail _ (.head _))))) rfl rfl rfl ?_ | refine J.loadOA Ty.a23 Ty.s23 rfl (.tail _ (.tail _ (.tail _ (.tail _ (.tail _ (.head _)))))) rfl rfl rfl ?_ | refine J.loadOA Ty.a23 Ty.s23 rfl (.tail _ (.tail _ (.tail _ (.tail _ (.tail _ (.tail _ (.head _))))))) rfl rfl rfl ?_ | refine J.loadOA Ty.a23 Ty.s23 rfl (.tail _ (.tail _ (.tail _ (.tail _ (.tail _ (.tail _ (.tail _ (.head _)))))))) rfl rfl rfl ?_ | refine J.loadOA Ty.a23 Ty.s23 rfl (.tail _ (.tail _ (.tail _ (.tail _ (.tail _ (.tail _ (.tail _ (.tail _ (.head _))))))))) rfl rfl rfl ?_ | refine J.loadOA Ty.a23 Ty.s23 rfl (.tail _ (.tail _ (.tail _ (.tail _ (.tail _ (.tail _ (.tail _ (.tail _ (.tail _ (.head _)))))))))) rfl rfl rfl ?_ | refine J.loadOA Ty.a23 Ty.s23 rfl (.tail _ (.tail _ (.tail _ (.tail _ (.tail _ (.tail _ (.tail _ (.tail _ (.tail _ (.tail _ (.head _))))))))))) rfl rfl rfl ?_ | refine J.loadOA Ty.a23 Ty.s23 rfl (.tail _ (.tail _ (.tail _ (.tail _ (.tail _ (.tail _ (.tail _ (.tail _ (.tail _ (.tail _ (.tail _ (.head _)))))))))))) rfl rfl rfl ?_ | refine J.loadOA Ty.a23 Ty.s23 rfl (List.mem_append_right _ (.head _)) rfl rfl rfl ?_ | refine J.loadOA Ty.a23 Ty.s23 rfl (List.mem_append_right _ (.tail _ (.head _))) rfl rfl rfl ?_ | refine J.loadOA Ty.a23 Ty.s23 rfl (List.mem_append_right _ (.tail _ (.tail _ (.head _)))) rfl rfl rfl ?_ | refine J.loadOA Ty.a23 Ty.s23 rfl (List.mem_append_right _ (.tail _ (.tail _ (.tail _ (.head _))))) rfl rfl rfl ?_ | refine J.loadOA Ty.a23 Ty.s23 rfl (List.mem_append_right _ (.tail _ (.tail _ (.tail _ (.tail _ (.head _)))))) rfl rfl rfl ?_ | refine J.loadOA Ty.a23 Ty.s23 rfl (List.mem_append_right _ (.tail _ (.tail _ (.tail _ (.tail _ (.tail _ (.head _))))))) rfl rfl rfl ?_ | refine J.loadOA Ty.a23 Ty.s23 rfl (List.mem_append_right _ (.tail _ (.tail _ (.tail _ (.tail _ (.tail _ (.tail _ (.head _)))))))) rfl rfl rfl ?_ | refine J.loadOA Ty.a23 Ty.s23 rfl (List.mem_append_right _ (.tail _ (.tail _ (.tail _ (.tail _ (.tail _ (.tail _ (.tail _ (.head _))))))))) rfl rfl rfl ?_ | refine J.loadOA Ty.a23 Ty.s23 rfl (List.mem_append_right _ (.tail _ (.tail _ (.tail _ (.tail _ (.tail _ (.tail _ (.tail _ (.tail _ (.head _)))))))))) rfl rfl rfl ?_ | refine J.loadOA Ty.a23 Ty.s23 rfl (List.mem_append_right _ (.tail _ (.tail _ (.tail _ (.tail _ (.tail _ (.tail _ (.tail _ (.tail _ (.tail _ (.head _))))))))))) rfl rfl rfl ?_ | refine J.loadOA Ty.a23 Ty.s23 rfl (List.mem_append_right _ (.tail _ (.tail _ (.tail _ (.tail _ (.tail _ (.tail _ (.tail _ (.tail _ (.tail _ (.tail _ (.head _)))))))))))) rfl rfl rfl ?_ | refine J.loadOA Ty.a23 Ty.s23 rfl (List.mem_append_right _ (.tail _ (.tail _ (.tail _ (.tail _ (.tail _ (.tail _ (.tail _ (.tail _ (.tail _ (.tail _ (.tail _ (.head _))))))))))))) rfl rfl rfl ?_))
            refine J.nil (JX.fin rfl (fun w hw => ⟨rfl, (by rw [hw.1]; exact Bel.refl _)⟩))
          · skip
            refine Fin.cons (fun v15_12 => ?_)
            refine Fin.cons (fun v15_15 => ?_)
            refine Fin.cons (fun v15_11 => ?_)
            refine Fin.nil ?_
            refine J.prE (fun h => ?_); subst h
            refine J.prE (fun h => ?_); subst h
            refine J.prE (fun h => ?_); subst h
            first
              | (refine J.skip rfl rfl rfl rfl rfl ?_)
              | (refine J.skipU rfl rfl rfl rfl ?_)
              | (refine J.unguard rfl rfl rfl ?_; refine J.eqI Ty.QI Ty.keyI rfl rfl rfl ?_)
            refine J.nil (JX.fin rfl (fun w hw => ⟨rfl, (by rw [hw.1]; exact Bel.refl _)⟩))
          · skip
            refine Fin.cons (fun v15_11 => ?_)
            refine Fin.cons (fun v15_16 => ?_)
            refine Fin.cons (fun v15_8 => ?_)
            refine Fin.nil ?_
            refine J.prE (fun h => ?_); subst h
            refine J.prE (fun h => ?_); subst h
            refine J.prE (fun h => ?_); subst h
            first
              | (refine J.skip rfl rfl rfl rfl rfl ?_)
              | (refine J.skipU rfl rfl rfl rfl ?_)
              | (refine J.unguard rfl rfl rfl ?_; (first | refine J.pickT rfl rfl rfl ?_ | refine J.pickF rfl rfl rfl ?_))
            refine J.nil (JX.fin rfl (fun w hw => ⟨rfl, (by rw [hw.1]; exact Bel.refl _)⟩))
          · skip
            refine Fin.cons (fun v15_8 => ?_)
            refine Fin.cons (fun v15_17 => ?_)
            refine Fin.nil ?_
            refine J.prE (fun h => ?_); subst h
            refine J.prE (fun h => ?_); subst h
            (first | refine J.pickT rfl rfl rfl ?_ | refine J.pickF rfl rfl rfl ?_)
            refine J.nil (JX.fin rfl (fun w hw => ⟨rfl, (by rw [hw.1]; exact Bel.refl _)⟩))
        case htail =>
          refine Fin.cons (fun v15_0 => ?_)
          refine Fin.cons (fun v15_1 => ?_)
          refine Fin.cons (fun v15_2 => ?_)
          refine Fin.cons (fun v15_3 => ?_)
          refine Fin.cons (fun v15_4 => ?_)
          refine Fin.cons (fun v15_5 => ?_)
          refine Fin.cons (fun v15_6 => ?_)
          refine Fin.cons (fun v15_7 => ?_)
          refine Fin.cons (fun v15_8 => ?_)
          refine Fin.cons (fun v15_9 => ?_)
          refine Fin.cons (fun v15_10 => ?_)
          refine Fin.cons (fun v15_11 => ?_)
          refine Fin.cons (fun v15_12 => ?_)
          refine Fin.cons (fun v15_13 => ?_)
          refine Fin.cons (fun v15_14 => ?_)
          refine Fin.cons (fun v15_15 => ?_)
          refine Fin.cons (fun v15_16 => ?_)
          refine Fin.cons (fun v15_17 => ?_)
          refine Fin.cons (fun v15_18 => ?_)
          refine Fin.nil ?_
          refine J.prE (fun h => ?_); subst h
          refine J.prE (fun h => ?_); subst h
          refine J.prE (fun h => ?_); subst h
          refine J.prE (fun h => ?_); subst h
          refine J.prE (fun h => ?_); subst h
          refine J.prE (fun h => ?_); subst h
          refine J.prE (fun h => ?_); subst h
          refine J.prE (fun h => ?_); subst h
          refine J.prE (fun h => ?_); subst h
          refine J.prE (fun h => ?_); subst h
          refine J.prE (fun h => ?_); subst h
          refine J.prE (fun h => ?_); subst h
          refine J.prE (fun h => ?_); subst h
          refine J.prE (fun h => ?_); subst h
          refine J.prE (fun h => ?_); subst h
          refine J.prE (fun h => ?_); subst h
          refine J.prE (fun h => ?_); subst h
          refine J.prE (fun h => ?_); subst h
          refine J.prE (fun h => ?_); subst h
          refine J.assign rfl rfl ?_
          refine J.nil ?_
          refine JX.thenN (hK17 _ _ ?_)
          refine JC.ret ?_
          refine JX.ret1 rfl rfl (fun w hw => ?_)
          exact ⟨rfl, (hw.drop (List.nil_sublist _)).below⟩
      · skip
        rw [if_neg hz] at hend
        refine JC.region ?_
        refine J.loadA (vs := cI at_) Ty.a23 Ty.s23 rfl rfl (fun w1 hw => Cells.of_block (hw.own _ (.head _)) rfl) rfl ?_
        refine J.move rfl rfl ?_
        refine J.callB (v := .tuple #[.agg (cI me0).toArray, .bool true]) (fun w1 w2 hw hb => hw.step hb) Ty.bd22 rfl rfl (fun w1 hw => by
          have h := next_spec at_ _ ys w1 (hr2.below (hw.drop (List.nil_sublist _)).below) (by omega)
          rw [hend] at h
          exact h) ?_
        refine J.move rfl rfl ?_
        refine J.extract rfl rfl rfl ?_
        refine J.extract rfl rfl rfl ?_
        refine J.alloc Ty.zID rfl rfl (fun b9 => ?_)
        refine J.storeW (cs := cI zI) (vs := cI me0) Ty.s23 rfl rfl rfl rfl rfl (by simp [Value.oneCell']) .here ?_
        refine J.assign rfl rfl ?_
        refine J.nil ?_
        refine JX.thenN (hK16 _ _ ?_)
        refine JC.seq (fun K18 hK18 => ?_)
        apply JC.drawL 19 [Eqv (.bool true), Eqv (.bool true), Eqv (.bool true), Eqv (.slice as_ (sortI ys me0).length cs), Eqv (.int .i64 (((sortI ys me0).length : Nat) : Int)), Eqv (.bool true), Eqv (.bool true), Eqv (.bool true), Eqv (.bool true), Eqv (.bool true), Eqv (.bool false), Eqv (.bool false), Eqv (.agg (cI me0).toArray), Eqv (.slice (some ⟨q1, o1, none⟩) ys.length c2), Eqv (.pointer (some ⟨q1, o1 + (0 : Int).toNat * 16, none⟩)), Eqv (.agg (cI me0).toArray), Eqv (.bool true), Eqv (.bool true), Eqv (.bool true)] Ty.mixed rfl rfl rfl (by kernel_rfl) rfl rfl (fun w w' hw hb => hw.step hb) ⟨fun _ _ _ h _ => h, fun _ _ _ h _ => h, fun _ _ _ h _ => h, fun _ _ _ h _ => h, fun _ _ _ h _ => h, fun _ _ _ h _ => h, fun _ _ _ h _ => h, fun _ _ _ h _ => h, fun _ _ _ h _ => h, fun _ _ _ h _ => h, fun _ _ _ h _ => h, fun _ _ _ h _ => h, fun _ _ _ h _ => h, fun _ _ _ h _ => h, fun _ _ _ h _ => h, fun _ _ _ h _ => h, fun _ _ _ h _ => h, fun _ _ _ h _ => h, fun _ _ _ h _ => h, trivial⟩ ?hstep ?htail
        case hstep =>
          refine ⟨fun wi => ?_, fun wi => ?_, fun wi => ?_, fun wi => ?_, fun wi => ?_, fun wi => ?_, fun wi => ?_, fun wi => ?_, fun wi => ?_, fun wi => ?_, fun wi => ?_, fun wi => ?_, fun wi => ?_, fun wi => ?_, fun wi => ?_, fun wi => ?_, fun wi => ?_, fun wi => ?_, fun wi => ?_, trivial⟩
          · skip
            refine Fin.nil ?_
            refine J.callD (v := .bool true) Ty.bd18 rfl rfl (fun w1 hw => fixed10_spec w1) ?_
            refine J.nil (JX.fin rfl (fun w hw => ⟨rfl, hw⟩))
          · skip
            refine Fin.cons (fun v15_0 => ?_)
            refine Fin.cons (fun v15_0 => ?_)
            refine Fin.nil ?_
            refine J.prE (fun h => ?_); subst h
            refine J.prE (fun h => ?_); subst h
            refine J.move rfl rfl ?_
            refine J.nil (JX.fin rfl (fun w hw => ⟨rfl, (by rw [hw.1]; exact Bel.refl _)⟩))
          · skip
            refine Fin.cons (fun v15_1 => ?_)
            refine Fin.nil ?_
            refine J.prE (fun h => ?_); subst h
            first
              | (refine J.skip rfl rfl rfl rfl rfl ?_)
              | (refine J.skipU rfl rfl rfl rfl ?_)
              | (refine J.unguard rfl rfl rfl ?_; refine J.move rfl rfl ?_)
            refine J.nil (JX.fin rfl (fun w hw => ⟨rfl, (by rw [hw.1]; exact Bel.refl _)⟩))
          · skip
            refine Fin.cons (fun v15_1 => ?_)
            refine Fin.nil ?_
            refine J.prE (fun h => ?_); subst h
            first
              | (refine J.skip rfl rfl rfl rfl rfl ?_)
              | (refine J.skipU rfl rfl rfl rfl ?_)
              | (refine J.unguard rfl rfl rfl ?_; refine J.move rfl rfl ?_)
            refine J.nil (JX.fin rfl (fun w hw => ⟨rfl, (by rw [hw.1]; exact Bel.refl _)⟩))
          · skip
            refine Fin.cons (fun v15_3 => ?_)
            refine Fin.cons (fun v15_1 => ?_)
            refine Fin.nil ?_
            refine J.prE (fun h => ?_); subst h
            refine J.prE (fun h => ?_); subst h
            first
              | (refine J.skip rfl rfl rfl rfl rfl ?_)
              | (refine J.skipU rfl rfl rfl rfl ?_)
              | (refine J.unguard rfl rfl rfl ?_; refine J.lenS rfl Ty.u24 rfl rfl ?_)
            refine J.nil (JX.fin rfl (fun w hw => ⟨rfl, (by rw [hw.1]; exact Bel.refl _)⟩))
          · skip
            refine Fin.cons (fun v15_4 => ?_)
            refine Fin.cons (fun v15_1 => ?_)
            refine Fin.nil ?_
            refine J.prE (fun h => ?_); subst h
            refine J.prE (fun h => ?_); subst h
            refine J.unguard rfl rfl rfl ?_
            refine J.bin rfl rfl rfl rfl ?_
            refine J.name 73 rfl (show _ = Value.bool true by simp; omega) ?_
            refine J.nil (JX.fin rfl (fun w hw => ⟨rfl, (by rw [hw.1]; exact Bel.refl _)⟩))
          · skip
            refine Fin.cons (fun v15_2 => ?_)
            refine Fin.cons (fun v15_5 => ?_)
            refine Fin.cons (fun v15_1 => ?_)
            refine Fin.nil ?_
            refine J.prE (fun h => ?_); subst h
            refine J.prE (fun h => ?_); subst h
            refine J.prE (fun h => ?_); subst h
            refine J.unguard rfl rfl rfl ?_
            refine J.eqBool (.inl rfl) Ty.u4 rfl rfl rfl ?_
            refine J.nil (JX.fin rfl (fun w hw => ⟨rfl, (by rw [hw.1]; exact Bel.refl _)⟩))
          · skip
            refine Fin.cons (fun v15_1 => ?_)
            refine Fin.cons (fun v15_6 => ?_)
            refine Fin.nil ?_
            refine J.prE (fun h => ?_); subst h
            refine J.prE (fun h => ?_); subst h
            (first | refine J.pickT rfl rfl rfl ?_ | refine J.pickF rfl rfl rfl ?_)
            refine J.nil (JX.fin rfl (fun w hw => ⟨rfl, (by rw [hw.1]; exact Bel.refl _)⟩))
          · skip
            refine Fin.cons (fun v15_7 => ?_)
            refine Fin.cons (fun v15_1 => ?_)
            refine Fin.nil ?_
            refine J.prE (fun h => ?_); subst h
            refine J.prE (fun h => ?_); subst h
            refine J.move rfl rfl ?_
            refine J.nil (JX.fin rfl (fun w hw => ⟨rfl, (by rw [hw.1]; exact Bel.refl _)⟩))
          · skip
            refine Fin.cons (fun v15_8 => ?_)
            refine Fin.nil ?_
            refine J.prE (fun h => ?_); subst h
            first
              | (refine J.skip rfl rfl rfl rfl rfl ?_)
              | (refine J.skipU rfl rfl rfl rfl ?_)
              | (refine J.unguard rfl rfl rfl ?_; refine J.move rfl rfl ?_)
            refine J.nil (JX.fin rfl (fun w hw => ⟨rfl, (by rw [hw.1]; exact Bel.refl _)⟩))
          · skip
            refine Fin.cons (fun v15_9 => ?_)
            refine Fin.cons (fun v15_8 => ?_)
            refine Fin.nil ?_
            refine J.prE (fun h => ?_); subst h
            refine J.prE (fun h => ?_); subst h
            first
              | (refine J.skip rfl rfl rfl rfl rfl ?_)
              | (refine J.skipU rfl rfl rfl rfl ?_)
              | (refine J.unguard rfl rfl rfl ?_; refine J.not rfl rfl ?_)
            refine J.nil (JX.fin rfl (fun w hw => ⟨rfl, (by rw [hw.1]; exact Bel.refl _)⟩))
          · skip
            refine Fin.cons (fun v15_10 => ?_)
            refine Fin.cons (fun v15_8 => ?_)
            refine Fin.cons (fun v15_8 => ?_)
            refine Fin.nil ?_
            refine J.prE (fun h => ?_); subst h
            refine J.prE (fun h => ?_); subst h
            refine J.prE (fun h => ?_); subst h
            first
              | (refine J.skip rfl rfl rfl rfl rfl ?_)
              | (refine J.skipU rfl rfl rfl rfl ?_)
              | (refine J.unguard rfl rfl rfl ?_; refine J.move rfl rfl ?_)
            refine J.nil (JX.fin rfl (fun w hw => ⟨rfl, (by rw [hw.1]; exact Bel.refl _)⟩))
          · skip
            refine Fin.cons (fun v15_11 => ?_)
            refine Fin.nil ?_
            refine J.prE (fun h => ?_); subst h
            refine J.unguard rfl rfl rfl ?_
            refine J.loadA (vs := cI me0) Ty.a23 Ty.s23 rfl rfl (fun w1 hw => Cells.of_block (hw.2.own _ (.head _)) rfl) rfl ?_
            refine J.nil (JX.fin rfl (fun w hw => ⟨rfl, (by rw [hw.1]; exact Bel.refl _)⟩))
          · skip
            refine Fin.cons (fun v15_11 => ?_)
            refine Fin.nil ?_
            refine J.prE (fun h => ?_); subst h
            first
              | (refine J.skip rfl rfl rfl rfl rfl ?_)
              | (refine J.skipU rfl rfl rfl rfl ?_)
              | (refine J.unguard rfl rfl rfl ?_; refine J.move rfl rfl ?_)
            refine J.nil (JX.fin rfl (fun w hw => ⟨rfl, (by rw [hw.1]; exact Bel.refl _)⟩))
          · skip
            refine Fin.cons (fun v15_13 => ?_)
            refine Fin.cons (fun v15_11 => ?_)
            refine Fin.nil ?_
            refine J.prE (fun h => ?_); subst h
            refine J.prE (fun h => ?_); subst h
            refine J.unguard rfl rfl rfl ?_
            refine J.indexAddrS Ty.el24 Ty.s23 rfl rfl (by omega) (by omega) rfl ?_
            refine J.nil (JX.fin rfl (fun w hw => ⟨rfl, (by rw [hw.1]; exact Bel.refl _)⟩))
          · skip
            refine Fin.cons (fun v15_14 => ?_)
            refine Fin.cons (fun v15_11 => ?_)
            refine Fin.nil ?_
            refine J.prE (fun h => ?_); subst h
            refine J.prE (fun h => ?_); subst h
            refine J.unguard rfl rfl rfl ?_
            refine J.loadA (vs := cI me0) Ty.a23 Ty.s23 rfl rfl (fun w1 hw => rowF_at (hr2.below (hw.2.drop (List.nil_sublist _)).below) hme (by omega)) rfl ?_
            refine J.nil (JX.fin rfl (fun w hw => ⟨rfl, (by rw [hw.1]; exact Bel.refl _)⟩))
          · skip
            refine Fin.cons (fun v15_12 => ?_)
            refine Fin.cons (fun v15_15 => ?_)
            refine Fin.cons (fun v15_11 => ?_)
            refine Fin.nil ?_
            refine J.prE (fun h => ?_); subst h
            refine J.prE (fun h => ?_); subst h
            refine J.prE (fun h => ?_); subst h
            refine J.unguard rfl rfl rfl ?_
            refine J.eqI Ty.QI Ty.keyI rfl rfl rfl ?_
            refine J.name 84 rfl (show _ = Value.bool true by simp) ?_
            refine J.nil (JX.fin rfl (fun w hw => ⟨rfl, (by rw [hw.1]; exact Bel.refl _)⟩))
          · skip
            refine Fin.cons (fun v15_11 => ?_)
            refine Fin.cons (fun v15_16 => ?_)
            refine Fin.cons (fun v15_8 => ?_)
            refine Fin.nil ?_
            refine J.prE (fun h => ?_); subst h
            refine J.prE (fun h => ?_); subst h
            refine J.prE (fun h => ?_); subst h
            first
              | (refine J.skip rfl rfl rfl rfl rfl ?_)
              | (refine J.skipU rfl rfl rfl rfl ?_)
              | (refine J.unguard rfl rfl rfl ?_; (first | refine J.pickT rfl rfl rfl ?_ | refine J.pickF rfl rfl rfl ?_))
            refine J.nil (JX.fin rfl (fun w hw => ⟨rfl, (by rw [hw.1]; exact Bel.refl _)⟩))
          · skip
            refine Fin.cons (fun v15_8 => ?_)
            refine Fin.cons (fun v15_17 => ?_)
            refine Fin.nil ?_
            refine J.prE (fun h => ?_); subst h
            refine J.prE (fun h => ?_); subst h
            (first | refine J.pickT rfl rfl rfl ?_ | refine J.pickF rfl rfl rfl ?_)
            refine J.nil (JX.fin rfl (fun w hw => ⟨rfl, (by rw [hw.1]; exact Bel.refl _)⟩))
        case htail =>
          refine Fin.cons (fun v15_0 => ?_)
          refine Fin.cons (fun v15_1 => ?_)
          refine Fin.cons (fun v15_2 => ?_)
          refine Fin.cons (fun v15_3 => ?_)
          refine Fin.cons (fun v15_4 => ?_)
          refine Fin.cons (fun v15_5 => ?_)
          refine Fin.cons (fun v15_6 => ?_)
          refine Fin.cons (fun v15_7 => ?_)
          refine Fin.cons (fun v15_8 => ?_)
          refine Fin.cons (fun v15_9 => ?_)
          refine Fin.cons (fun v15_10 => ?_)
          refine Fin.cons (fun v15_11 => ?_)
          refine Fin.cons (fun v15_12 => ?_)
          refine Fin.cons (fun v15_13 => ?_)
          refine Fin.cons (fun v15_14 => ?_)
          refine Fin.cons (fun v15_15 => ?_)
          refine Fin.cons (fun v15_16 => ?_)
          refine Fin.cons (fun v15_17 => ?_)
          refine Fin.cons (fun v15_18 => ?_)
          refine Fin.nil ?_
          refine J.prE (fun h => ?_); subst h
          refine J.prE (fun h => ?_); subst h
          refine J.prE (fun h => ?_); subst h
          refine J.prE (fun h => ?_); subst h
          refine J.prE (fun h => ?_); subst h
          refine J.prE (fun h => ?_); subst h
          refine J.prE (fun h => ?_); subst h
          refine J.prE (fun h => ?_); subst h
          refine J.prE (fun h => ?_); subst h
          refine J.prE (fun h => ?_); subst h
          refine J.prE (fun h => ?_); subst h
          refine J.prE (fun h => ?_); subst h
          refine J.prE (fun h => ?_); subst h
          refine J.prE (fun h => ?_); subst h
          refine J.prE (fun h => ?_); subst h
          refine J.prE (fun h => ?_); subst h
          refine J.prE (fun h => ?_); subst h
          refine J.prE (fun h => ?_); subst h
          refine J.prE (fun h => ?_); subst h
          refine J.assign rfl rfl ?_
          refine J.nil ?_
          refine JX.thenN (hK18 _ _ ?_)
          refine JC.ret ?_
          refine JX.ret1 rfl rfl (fun w hw => ?_)
          exact ⟨rfl, (hw.drop (List.nil_sublist _)).below⟩

theorem ringRound_walk (w : World) (o : Sl IDV) (ho : RSl 16 16 RId w [o.v] o) :
    Calls Try.prog 7 [o.v].toArray w fun r w' => r = .returned (.bool true) ∧ Bel w w' := rounds_spec o.v o.xs w (RSl.rowId ho)
end Go.Proofs.Ytdpbgmbicdgdbaa
