/-
  RingGreedy: the walk.
-/
import Derived.Test.YtdpbgmbicdgdbaaLo
namespace Go.Proofs.Ytdpbgmbicdgdbaa
open Go.J Go.RowKit
set_option linter.unusedVariables false
set_option linter.unusedSimpArgs false
set_option maxRecDepth 4000
theorem half3 (half : Int) : Value.int .i64 (IntKind.i64.wrap (1 + IntKind.i64.wrap ((IntKind.u64.wrap half).tmod 3))) = .int .i64 (1 + half % 18446744073709551616 % 3) := by
  have h1 := Int.emod_nonneg half (show (18446744073709551616 : Int) ≠ 0 by decide)
  have h2 : (IntKind.u64.wrap half).tmod 3 = half % 18446744073709551616 % 3 := by rw [wrap_u64m, Int.tmod_eq_emod_of_nonneg h1]
  have h3 := Int.emod_nonneg (half % 18446744073709551616) (show (3 : Int) ≠ 0 by decide)
  have h4 := Int.emod_lt_of_pos (half % 18446744073709551616) (show (0 : Int) < 3 by decide)
  rw [h2, wrap_i64 (n := half % 18446744073709551616 % 3) (by omega) (by omega), wrap_i64 (by omega) (by omega)]
theorem greedy_any {d ia nx : IDV} {ys : List IDV} {half : Int} (hh : 1 ≤ half) (hn : nx ∈ ys) (hne : ia ≠ nx) (hmin : ∀ y, y ∈ ys → kN d nx ≤ kN d y) (ha : ia ∈ ys) : (wantI ia ys half).any (fun y => decide (kN d y < kN d ia)) = true := by
  rw [List.any_eq_true]
  have h1 := hmin ia ha
  have h2 : kN d ia ≠ kN d nx := fun e => hne (kN_inj e)
  have h3 : kN d nx < kN d ia := by omega
  obtain ⟨b, hb1, hb2⟩ := greedy (a := ia) (n := nx) (d := d) hh hn (fun e => hne e.symm) (near_kN.2 h3)
  exact ⟨b, hb1, by rw [decide_eq_true_eq]; exact near_kN.1 hb2⟩
theorem take_any {p : IDV → Bool} {l : List IDV} {k : Nat} {y : IDV} (h : l[k]? = some y) : (l.take (k + 1)).any p = ((l.take k).any p || p y) := by
  have hk := (List.getElem?_eq_some_iff.1 h).1
  rw [take_snoc hk, List.any_append]
  rw [List.getElem?_eq_getElem hk] at h
  cases h
  simp

set_option maxHeartbeats 4000000 in
theorem greedys_spec (d : IDV) (v : Value) (xs : List IDV) (half : Int) (w : World) (hr : Row w v xs.length (fI xs)) :
    Calls Try.prog 5 [.agg (cI d).toArray, v, .int .i64 half].toArray w fun r w' => r = .returned (.bool true) ∧ Bel w w' := by
  refine calls_of_J (args := [.agg (cI d).toArray, v, .int .i64 half]) (e := [(0, .agg (cI d).toArray), (1, v), (2, .int .i64 half)]) Try.func5 rfl rfl ⟨rfl, rfl, rfl, trivial⟩ (St.start w) ?_
  refine JC.seq (fun K0 hK0 => ?_)
  refine JC.region ?_
  refine J.box rfl rfl rfl (fun b3 => ?_)
  refine J.assign rfl rfl ?_
  refine J.nil ?_
  refine JX.thenN (hK0 _ _ ?_)
  refine JC.seq (fun K1 hK1 => ?_)
  refine JC.region ?_
  refine J.move rfl rfl ?_
  refine J.callB (v := cutV v (min xs.length 24)) (fun w1 w2 hw hb => hw.step hb) Ty.bd14 rfl rfl (fun w1 hw => cut_spec v xs 24 w1 (hr.below (hw.drop (List.nil_sublist _)).below)) ?_
  have hr2 := row_cut hr 24
  have hyl : (xs.take 24).length ≤ 24 := by rw [List.length_take]; omega
  generalize cutV v (min xs.length 24) = v2 at hr2 ⊢
  generalize xs.take 24 = ys at hr2 hyl ⊢
  obtain ⟨a2, c2, rfl, hc2, _⟩ := id hr2
  refine J.assign rfl rfl ?_
  refine J.nil ?_
  refine JX.thenN (hK1 _ _ ?_)
  refine JC.seq (fun K2 hK2 => ?_)
  refine JC.region ?_
  refine J.move rfl rfl ?_
  refine J.convInt Ty.u3 Ty.u37 rfl rfl ?_
  refine J.bin rfl rfl rfl rfl ?_
  refine J.convInt Ty.u37 Ty.u3 rfl rfl ?_
  refine J.bin rfl rfl rfl rfl ?_
  have hh3 := half3 half
  obtain ⟨hf, hhf⟩ : ∃ hf : Int, hf = 1 + half % 18446744073709551616 % 3 := ⟨_, rfl⟩
  rw [← hhf] at hh3
  have hp1 := Int.emod_nonneg (half % 18446744073709551616) (show (3 : Int) ≠ 0 by decide)
  have hp2 : 1 ≤ hf := by omega
  refine J.name 19 rfl hh3 ?_
  refine J.assign rfl rfl ?_
  refine J.nil ?_
  refine JX.thenN (hK2 _ _ ?_)
  refine JC.seq (fun K3 hK3 => ?_)
  refine JC.region ?_
  (first | refine J.loadOA Ty.a23 Ty.s23 rfl (.head _) rfl rfl rfl ?_ | refine J.loadOA Ty.a23 Ty.s23 rfl (.tail _ (.head _)) rfl rfl rfl ?_ | refine J.loadOA Ty.a23 Ty.s23 rfl (.tail _ (.tail _ (.head _))) rfl rfl rfl ?_ | refine J.loadOA Ty.a23 Ty.s23 rfl (.tail _ (.tail _ (.tail _ (.head _)))) rfl rfl rfl ?_ | refine J.loadOA Ty.a23 Ty.s23 rfl (.tail _ (.tail _ (.tail _ (.tail _ (.head _))))) rfl rfl rfl ?_ | refine J.loadOA Ty.a23 Ty.s23 rfl (.tail _ (.tail _ (.tail _ (.tail _ (.tail _ (.head _)))))) rfl rfl rfl ?_ | refine J.loadOA Ty.a23 Ty.s23 rfl (.tail _ (.tail _ (.tail _ (.tail _ (.tail _ (.tail _ (.head _))))))) rfl rfl rfl ?_ | refine J.loadOA Ty.a23 Ty.s23 rfl (.tail _ (.tail _ (.tail _ (.tail _ (.tail _ (.tail _ (.tail _ (.head _)))))))) rfl rfl rfl ?_ | refine J.loadOA Ty.a23 Ty.s23 rfl (.tail _ (.tail _ (.tail _ (.tail _ (.tail _ (.tail _ (.tail _ (.tail _ (.head _))))))))) rfl rfl rfl ?_ | refine J.loadOA Ty.a23 Ty.s23 rfl (.tail _ (.tail _ (.tail _ (.tail _ (.tail _ (.tail _ (.tail _ (.tail _ (.tail _ (.head _)))))))))) rfl rfl rfl ?_ | refine J.loadOA Ty.a23 Ty.s23 rfl (.tail _ (.tail _ (.tail _ (.tail _ (.tail _ (.tail _ (.tail _ (.tail _ (.tail _ (.tail _ (.head _))))))))))) rfl rfl rfl ?_ | refine J.loadOA Ty.a23 Ty.s23 rfl (.tail _ (.tail _ (.tail _ (.tail _ (.tail _ (.tail _ (.tail _ (.tail _ (.tail _ (.tail _ (.tail _ (.head _)))))))))))) rfl rfl rfl ?_ | refine J.loadOA Ty.a23 Ty.s23 rfl (List.mem_append_right _ (.head _)) rfl rfl rfl ?_ | refine J.loadOA Ty.a23 Ty.s23 rfl (List.mem_append_right _ (.tail _ (.head _))) rfl rfl rfl ?_ | refine J.loadOA Ty.a23 Ty.s23 rfl (List.mem_append_right _ (.tail _ (.tail _ (.head _)))) rfl rfl rfl ?_ | refine J.loadOA Ty.a23 Ty.s23 rfl (List.mem_append_right _ (.tail _ (.tail _ (.tail _ (.head _))))) rfl rfl rfl ?_ | refine J.loadOA Ty.a23 Ty.s23 rfl (List.mem_append_right _ (.tail _ (.tail _ (.tail _ (.tail _ (.head _)))))) rfl rfl rfl ?_ | refine J.loadOA Ty.a23 Ty.s23 rfl (List.mem_append_right _ (.tail _ (.tail _ (.tail _ (.tail _ (.tail _ (.head _))))))) rfl rfl rfl ?_ | refine J.loadOA Ty.a23 Ty.s23 rfl (List.mem_append_right _ (.tail _ (.tail _ (.tail _ (.tail _ (.tail _ (.tail _ (.head _)))))))) rfl rfl rfl ?_ | refine J.loadOA Ty.a23 Ty.s23 rfl (List.mem_append_right _ (.tail _ (.tail _ (.tail _ (.tail _ (.tail _ (.tail _ (.tail _ (.head _))))))))) rfl rfl rfl ?_ | refine J.loadOA Ty.a23 Ty.s23 rfl (List.mem_append_right _ (.tail _ (.tail _ (.tail _ (.tail _ (.tail _ (.tail _ (.tail _ (.tail _ (.head _)))))))))) rfl rfl rfl ?_ | refine J.loadOA Ty.a23 Ty.s23 rfl (List.mem_append_right _ (.tail _ (.tail _ (.tail _ (.tail _ (.tail _ (.tail _ (.tail _ (.tail _ (.tail _ (.head _))))))))))) rfl rfl rfl ?_ | refine J.loadOA Ty.a23 Ty.s23 rfl (List.mem_append_right _ (.tail _ (.tail _ (.tail _ (.tail _ (.tail _ (.tail _ (.tail _ (.tail _ (.tail _ (.tail _ (.head _)))))))))))) rfl rfl rfl ?_ | refine J.loadOA Ty.a23 Ty.s23 rfl (List.mem_append_right _ (.tail _ (.tail _ (.tail _ (.tail _ (.tail _ (.tail _ (.tail _ (.tail _ (.tail _ (.tail _ (.tail _ (.head _))))))))))))) rfl rfl rfl ?_)
  refine J.move rfl rfl ?_
  refine J.callB (v := .int .i64 (argI (kN d) ys)) (fun w1 w2 hw hb => hw.step hb) Ty.bd26 rfl rfl (fun w1 hw => rnearest_spec d _ ys w1 (hr2.below (hw.drop (List.nil_sublist _)).below) (by omega)) ?_
  refine J.assign rfl rfl ?_
  refine J.nil ?_
  refine JX.thenN (hK3 _ _ ?_)
  refine JC.seq (fun K4 hK4 => ?_)
  refine JC.seq (fun K5 hK5 => ?_)
  refine JC.region ?_
  refine J.move rfl rfl ?_
  refine J.lenS rfl Ty.u24 rfl rfl ?_
  refine J.move rfl rfl ?_
  refine J.nil ?_
  refine JX.thenN (hK5 _ _ ?_)
  refine JC.block ?_
  refine JC.conseq (JC.cov (f := (fun i => [(1, .slice a2 ys.length c2), (2, .int .i64 hf), (3, .pointer (some ⟨b3, 0, none⟩)), (7, .int .i64 (argI (kN d) ys)), (23, .slice a2 ys.length c2), (24, .int .i64 ((ys.length : Nat) : Int)), (25, .int .i64 ((i : Nat) : Int))]) 0) ⟨rfl, rfl, rfl, rfl, rfl, rfl, rfl, trivial⟩ (JC.loop (α := Nat) (fun i => [(1, .slice a2 ys.length c2), (2, .int .i64 hf), (3, .pointer (some ⟨b3, 0, none⟩)), (7, .int .i64 (argI (kN d) ys)), (23, .slice a2 ys.length c2), (24, .int .i64 ((ys.length : Nat) : Int)), (25, .int .i64 ((i : Nat) : Int))]) (fun i w' => (i ≤ ys.length) ∧ St w [] [(b3, cb (cI d) 23)] w') (fun i => ys.length - i) 0 (fun i => ?_))) (fun w hw => ⟨Nat.zero_le _, hw⟩)
  refine JC.pr (fun hi => ?_)
  refine JC.seq (fun K6 hK6 => ?_)
  refine JC.region ?_
  refine J.bin rfl rfl rfl rfl ?_
  refine J.nil ?_
  refine JX.thenN (hK6 _ _ ?_)
  refine JC.seq (fun K7 hK7 => ?_)
  refine JC.cond rfl (fun h0 => ?_) (fun h0 => ?_)
  · skip
    have hlt : i < ys.length := by simp at h0; omega
    have hfys := fI_length ys
    have hcl := (Row.some hr2 (by omega))
    obtain ⟨q1, o1, c2', hqe, _, _⟩ := hcl
    simp only [Value.slice.injEq] at hqe
    obtain ⟨rfl, _, rfl⟩ := hqe
    obtain ⟨ia, hia⟩ : ∃ x, ys[i]? = some x := ⟨_, List.getElem?_eq_getElem hlt⟩
    obtain ⟨ni, nx, hat, hnx, hmin⟩ := argI_spec (f := kN d) (xs := ys) (fun e => by rw [e] at hlt; exact absurd hlt (by simp))
    have hnl := (List.getElem?_eq_some_iff.1 hnx).1
    refine JC.skip ?_
    refine JX.thenN (hK7 _ _ ?_)
    refine JC.seq (fun K8 hK8 => ?_)
    refine JC.block ?_
    refine JC.seq (fun K9 hK9 => ?_)
    refine JC.region ?_
    refine J.indexAddrS Ty.el24 Ty.s23 rfl rfl (by omega) (by omega) rfl ?_
    refine J.loadA (vs := cI ia) Ty.a23 Ty.s23 rfl rfl (fun w1 hw => rowF_at (hr2.below (hw.drop (List.nil_sublist _)).below) hia (by omega)) rfl ?_
    refine J.alloc Ty.zID rfl rfl (fun b9 => ?_)
    refine J.storeW (cs := cI zI) (vs := cI ia) Ty.s23 rfl rfl rfl rfl rfl (by simp [Value.oneCell']) .here ?_
    refine J.nil ?_
    refine JX.thenN (hK9 _ _ ?_)
    refine JC.seq (fun K10 hK10 => ?_)
    refine JC.seq (fun K11 hK11 => ?_)
    by_cases hxn : ia = nx
    · skip
      apply JC.drawL 6 [Eqv (.agg (cI ia).toArray), Eqv (.slice (some ⟨q1, o1, none⟩) ys.length c2), Eqv (.int .i64 (argI (kN d) ys)), Eqv (.pointer (some ⟨q1, o1 + (ni : Int).toNat * 16, none⟩)), Eqv (.agg (cI nx).toArray), Eqv (.bool true)] Ty.mixed rfl rfl rfl (by kernel_rfl) rfl rfl (fun w w' hw hb => hw.step hb) ⟨fun _ _ _ h _ => h, fun _ _ _ h _ => h, fun _ _ _ h _ => h, fun _ _ _ h _ => h, fun _ _ _ h _ => h, fun _ _ _ h _ => h, trivial⟩ ?hstep ?htail
      case hstep =>
        refine ⟨fun wi => ?_, fun wi => ?_, fun wi => ?_, fun wi => ?_, fun wi => ?_, fun wi => ?_, trivial⟩
        · skip
          refine Fin.nil ?_
          refine J.loadA (vs := cI ia) Ty.a23 Ty.s23 rfl rfl (fun w1 hw => Cells.of_block (hw.2.own _ (.head _)) rfl) rfl ?_
          refine J.nil (JX.fin rfl (fun w hw => ⟨rfl, (by rw [hw.1]; exact Bel.refl _)⟩))
        · skip
          refine Fin.nil ?_
          refine J.move rfl rfl ?_
          refine J.nil (JX.fin rfl (fun w hw => ⟨rfl, (by rw [hw.1]; exact Bel.refl _)⟩))
        · skip
          refine Fin.nil ?_
          refine J.move rfl rfl ?_
          refine J.nil (JX.fin rfl (fun w hw => ⟨rfl, (by rw [hw.1]; exact Bel.refl _)⟩))
        · skip
          refine Fin.cons (fun v7_1 => ?_)
          refine Fin.cons (fun v7_2 => ?_)
          refine Fin.nil ?_
          refine J.prE (fun h => ?_); subst h
          refine J.prE (fun h => ?_); subst h
          rw [hat]
          refine J.indexAddrS Ty.el24 Ty.s23 rfl rfl (by omega) (by omega) rfl ?_
          refine J.nil (JX.fin rfl (fun w hw => ⟨rfl, (by rw [hw.1]; exact Bel.refl _)⟩))
        · skip
          refine Fin.cons (fun v7_3 => ?_)
          refine Fin.nil ?_
          refine J.prE (fun h => ?_); subst h
          refine J.loadA (vs := cI nx) Ty.a23 Ty.s23 rfl rfl (fun w1 hw => rowF_at (hr2.below (hw.2.drop (List.nil_sublist _)).below) hnx (by omega)) rfl ?_
          refine J.nil (JX.fin rfl (fun w hw => ⟨rfl, (by rw [hw.1]; exact Bel.refl _)⟩))
        · skip
          refine Fin.cons (fun v7_0 => ?_)
          refine Fin.cons (fun v7_4 => ?_)
          refine Fin.nil ?_
          refine J.prE (fun h => ?_); subst h
          refine J.prE (fun h => ?_); subst h
          refine J.eqI Ty.QI Ty.keyI rfl rfl rfl ?_
          refine J.name 34 rfl (show _ = Value.bool true by simp [hxn]) ?_
          refine J.nil (JX.fin rfl (fun w hw => ⟨rfl, (by rw [hw.1]; exact Bel.refl _)⟩))
      case htail =>
        refine Fin.cons (fun v7_0 => ?_)
        refine Fin.cons (fun v7_1 => ?_)
        refine Fin.cons (fun v7_2 => ?_)
        refine Fin.cons (fun v7_3 => ?_)
        refine Fin.cons (fun v7_4 => ?_)
        refine Fin.cons (fun v7_5 => ?_)
        refine Fin.nil ?_
        refine J.prE (fun h => ?_); subst h
        refine J.prE (fun h => ?_); subst h
        refine J.prE (fun h => ?_); subst h
        refine J.prE (fun h => ?_); subst h
        refine J.prE (fun h => ?_); subst h
        refine J.prE (fun h => ?_); subst h
        refine J.nil ?_
        refine JX.thenN (hK11 _ _ ?_)
        first | refine JC.condT rfl ?_ | refine JC.cond rfl (fun _ => ?_) (fun h => by first | (exfalso; simp at h; omega) | (simp at h))
        refine JC.exit ?_
        refine JX.thenE ?_
        refine JX.blockE ?_
        refine JX.thenN (hK8 _ _ ?_)
        refine JC.region ?_
        (first | refine J.addN rfl rfl (by omega) (by omega) rfl ?_ | refine J.bin rfl rfl rfl rfl ?_)
        refine J.move rfl rfl ?_
        refine J.nil ?_
        refine JX.thenN ?_
        refine JX.again (i + 1) ?_ ?_ ?_
        · omega
        · exact ⟨rfl, rfl, rfl, rfl, rfl, rfl, rfl, trivial⟩
        · exact fun w1 hw => ⟨hlt, hw.drop (by simp)⟩
    · skip
      apply JC.drawL 6 [Eqv (.agg (cI ia).toArray), Eqv (.slice (some ⟨q1, o1, none⟩) ys.length c2), Eqv (.int .i64 (argI (kN d) ys)), Eqv (.pointer (some ⟨q1, o1 + (ni : Int).toNat * 16, none⟩)), Eqv (.agg (cI nx).toArray), Eqv (.bool false)] Ty.mixed rfl rfl rfl (by kernel_rfl) rfl rfl (fun w w' hw hb => hw.step hb) ⟨fun _ _ _ h _ => h, fun _ _ _ h _ => h, fun _ _ _ h _ => h, fun _ _ _ h _ => h, fun _ _ _ h _ => h, fun _ _ _ h _ => h, trivial⟩ ?hstep ?htail
      case hstep =>
        refine ⟨fun wi => ?_, fun wi => ?_, fun wi => ?_, fun wi => ?_, fun wi => ?_, fun wi => ?_, trivial⟩
        · skip
          refine Fin.nil ?_
          refine J.loadA (vs := cI ia) Ty.a23 Ty.s23 rfl rfl (fun w1 hw => Cells.of_block (hw.2.own _ (.head _)) rfl) rfl ?_
          refine J.nil (JX.fin rfl (fun w hw => ⟨rfl, (by rw [hw.1]; exact Bel.refl _)⟩))
        · skip
          refine Fin.nil ?_
          refine J.move rfl rfl ?_
          refine J.nil (JX.fin rfl (fun w hw => ⟨rfl, (by rw [hw.1]; exact Bel.refl _)⟩))
        · skip
          refine Fin.nil ?_
          refine J.move rfl rfl ?_
          refine J.nil (JX.fin rfl (fun w hw => ⟨rfl, (by rw [hw.1]; exact Bel.refl _)⟩))
        · skip
          refine Fin.cons (fun v7_1 => ?_)
          refine Fin.cons (fun v7_2 => ?_)
          refine Fin.nil ?_
          refine J.prE (fun h => ?_); subst h
          refine J.prE (fun h => ?_); subst h
          rw [hat]
          refine J.indexAddrS Ty.el24 Ty.s23 rfl rfl (by omega) (by omega) rfl ?_
          refine J.nil (JX.fin rfl (fun w hw => ⟨rfl, (by rw [hw.1]; exact Bel.refl _)⟩))
        · skip
          refine Fin.cons (fun v7_3 => ?_)
          refine Fin.nil ?_
          refine J.prE (fun h => ?_); subst h
          refine J.loadA (vs := cI nx) Ty.a23 Ty.s23 rfl rfl (fun w1 hw => rowF_at (hr2.below (hw.2.drop (List.nil_sublist _)).below) hnx (by omega)) rfl ?_
          refine J.nil (JX.fin rfl (fun w hw => ⟨rfl, (by rw [hw.1]; exact Bel.refl _)⟩))
        · skip
          refine Fin.cons (fun v7_0 => ?_)
          refine Fin.cons (fun v7_4 => ?_)
          refine Fin.nil ?_
          refine J.prE (fun h => ?_); subst h
          refine J.prE (fun h => ?_); subst h
          refine J.eqI Ty.QI Ty.keyI rfl rfl rfl ?_
          refine J.name 34 rfl (show _ = Value.bool false by simp [hxn]) ?_
          refine J.nil (JX.fin rfl (fun w hw => ⟨rfl, (by rw [hw.1]; exact Bel.refl _)⟩))
      case htail =>
        refine Fin.cons (fun v7_0 => ?_)
        refine Fin.cons (fun v7_1 => ?_)
        refine Fin.cons (fun v7_2 => ?_)
        refine Fin.cons (fun v7_3 => ?_)
        refine Fin.cons (fun v7_4 => ?_)
        refine Fin.cons (fun v7_5 => ?_)
        refine Fin.nil ?_
        refine J.prE (fun h => ?_); subst h
        refine J.prE (fun h => ?_); subst h
        refine J.prE (fun h => ?_); subst h
        refine J.prE (fun h => ?_); subst h
        refine J.prE (fun h => ?_); subst h
        refine J.prE (fun h => ?_); subst h
        refine J.nil ?_
        refine JX.thenN (hK11 _ _ ?_)
        first | refine JC.condF rfl ?_ | refine JC.cond rfl (fun h => by first | (exfalso; simp at h; omega) | (simp at h)) (fun _ => ?_)
        refine JC.skip ?_
        refine JX.thenN (hK10 _ _ ?_)
        refine JC.seq (fun K12 hK12 => ?_)
        refine JC.region ?_
        refine J.assign rfl rfl ?_
        refine J.nil ?_
        refine JX.thenN (hK12 _ _ ?_)
        refine JC.seq (fun K13 hK13 => ?_)
        refine JC.seq (fun K14 hK14 => ?_)
        refine JC.region ?_
        refine J.loadA (vs := cI ia) Ty.a23 Ty.s23 rfl rfl (fun w1 hw => Cells.of_block (hw.own _ (.head _)) rfl) rfl ?_
        refine J.move rfl rfl ?_
        refine J.move rfl rfl ?_
        refine J.perm ([] ++ [(b9, cb (cI ia) 23), (b3, cb (cI d) 23)]) (.refl _) ?_
        refine J.callS (α := Value × List (Nat × Obj)) (V := (·.1)) (Pr := fun x => Vec 23 16 x.1 (wantI ia ys hf).length (fI (wantI ia ys hf)) x.2) (L := (·.2)) (l1 := []) Ty.bd16 rfl rfl (fun w1 hw => want_spec ia _ ys hf w1 (hr2.below (hw.drop (List.nil_sublist _)).below) (by omega)) (fun x hvw => ?_)
        obtain ⟨vw, lw⟩ := x
        simp only at hvw ⊢
        have hwl := wantI_le ia ys hf
        obtain ⟨aw, cw, rfl, hcw⟩ := hvw.form
        refine J.lenS rfl Ty.u24 rfl rfl ?_
        refine J.move rfl rfl ?_
        refine J.nil ?_
        refine JX.thenN (hK14 _ _ ?_)
        refine JC.block ?_
        refine JC.conseq (JC.cov (f := (fun st => [(1, .slice (some ⟨q1, o1, none⟩) ys.length c2), (2, .int .i64 hf), (3, .pointer (some ⟨b3, 0, none⟩)), (7, .int .i64 (argI (kN d) ys)), (23, .slice (some ⟨q1, o1, none⟩) ys.length c2), (24, .int .i64 ((ys.length : Nat) : Int)), (25, .int .i64 ((i : Nat) : Int)), (9, .pointer (some ⟨b9, 0, none⟩)), (10, .bool st.1), (38, .slice aw (wantI ia ys hf).length cw), (39, .int .i64 (((wantI ia ys hf).length : Nat) : Int)), (40, .int .i64 ((st.2 : Nat) : Int))]) ((false, 0) : Bool × Nat)) ⟨rfl, rfl, rfl, rfl, rfl, rfl, rfl, rfl, rfl, rfl, rfl, rfl, trivial⟩ (JC.loop (α := Bool × Nat) (fun st => [(1, .slice (some ⟨q1, o1, none⟩) ys.length c2), (2, .int .i64 hf), (3, .pointer (some ⟨b3, 0, none⟩)), (7, .int .i64 (argI (kN d) ys)), (23, .slice (some ⟨q1, o1, none⟩) ys.length c2), (24, .int .i64 ((ys.length : Nat) : Int)), (25, .int .i64 ((i : Nat) : Int)), (9, .pointer (some ⟨b9, 0, none⟩)), (10, .bool st.1), (38, .slice aw (wantI ia ys hf).length cw), (39, .int .i64 (((wantI ia ys hf).length : Nat) : Int)), (40, .int .i64 ((st.2 : Nat) : Int))]) (fun st w' => (st.2 ≤ (wantI ia ys hf).length ∧ st.1 = ((wantI ia ys hf).take st.2).any (fun y => decide (kN d y < kN d ia))) ∧ St w [] ((b9, cb (cI ia) 23) :: (b3, cb (cI d) 23) :: lw) w') (fun st => (wantI ia ys hf).length - st.2) ((false, 0) : Bool × Nat) (fun st => ?_))) (fun w hw => ⟨⟨Nat.zero_le _, by simp⟩, hw.perm (by (refine perm_cnt (fun _ => ?_)); simp only [cntB_append, cntB_cons, cntB_nil, Nat.add_zero, Nat.zero_add]; try ac_rfl)⟩)
        obtain ⟨ok, j⟩ := st
        refine JC.pr (fun hj => ?_)
        obtain ⟨hj, hok⟩ := hj
        simp only at hj hok ⊢
        refine JC.seq (fun K15 hK15 => ?_)
        refine JC.region ?_
        refine J.bin rfl rfl rfl rfl ?_
        refine J.nil ?_
        refine JX.thenN (hK15 _ _ ?_)
        refine JC.seq (fun K16 hK16 => ?_)
        refine JC.cond rfl (fun h2 => ?_) (fun h2 => ?_)
        · skip
          have hlt2 : j < (wantI ia ys hf).length := by simp at h2; omega
          obtain ⟨qw, spw, rfl, rfl, hsw, hcw2⟩ := vecI_pos hvw (by omega)
          obtain ⟨ib, hib⟩ : ∃ x, (wantI ia ys hf)[j]? = some x := ⟨_, List.getElem?_eq_getElem hlt2⟩
          refine JC.skip ?_
          refine JX.thenN (hK16 _ _ ?_)
          refine JC.seq (fun K17 hK17 => ?_)
          refine JC.block ?_
          refine JC.seq (fun K18 hK18 => ?_)
          refine JC.region ?_
          refine J.indexAddrS Ty.el24 Ty.s23 rfl rfl (by omega) (by omega) rfl ?_
          refine J.loadA (vs := cI ib) Ty.a23 Ty.s23 rfl rfl (fun w1 hw => rowF_at (o := 0) (hvw.rowM hw (fun q hq => by simp [hq])) hib (by omega)) rfl ?_
          refine J.alloc Ty.zID rfl rfl (fun b12 => ?_)
          refine J.storeW (cs := cI zI) (vs := cI ib) Ty.s23 rfl rfl rfl rfl rfl (by simp [Value.oneCell']) .here ?_
          refine J.nil ?_
          refine JX.thenN (hK18 _ _ ?_)
          cases ok
          · skip
            refine JC.region ?_
            refine J.move rfl rfl ?_
            refine J.move rfl rfl ?_
            first
              | (refine J.skip rfl rfl rfl rfl rfl ?_)
              | (refine J.skipU rfl rfl rfl rfl ?_)
              | (refine J.unguard rfl rfl rfl ?_; refine J.loadA (vs := cI d) Ty.a23 Ty.s23 rfl rfl (fun w1 hw => Cells.of_block (hw.own _ (.tail _ (.tail _ (.head _)))) rfl) rfl ?_)
            first
              | (refine J.skip rfl rfl rfl rfl rfl ?_)
              | (refine J.skipU rfl rfl rfl rfl ?_)
              | (refine J.unguard rfl rfl rfl ?_; refine J.loadA (vs := cI ib) Ty.a23 Ty.s23 rfl rfl (fun w1 hw => Cells.of_block (hw.own _ (.head _)) rfl) rfl ?_)
            first
              | (refine J.skip rfl rfl rfl rfl rfl ?_)
              | (refine J.skipU rfl rfl rfl rfl ?_)
              | (refine J.unguard rfl rfl rfl ?_; refine J.loadA (vs := cI ia) Ty.a23 Ty.s23 rfl rfl (fun w1 hw => Cells.of_block (hw.own _ (.tail _ (.head _))) rfl) rfl ?_)
            first
              | (refine J.skip rfl rfl rfl rfl rfl ?_)
              | (refine J.skipU rfl rfl rfl rfl ?_)
              | (refine J.unguard rfl rfl rfl ?_; refine J.callB (v := .bool (decide (kN d ib < kN d ia))) (fun w1 w2 hw hb => hw.step hb) Ty.bd27 rfl rfl (fun w1 hw => rnearer_spec d ib ia w1) ?_)
            (first | refine J.pickT rfl rfl rfl ?_ | refine J.pickF rfl rfl rfl ?_)
            refine J.assign rfl rfl ?_
            refine J.nil ?_
            refine JX.blockN ?_
            refine JX.thenN (hK17 _ _ ?_)
            refine JC.region ?_
            (first | refine J.addN rfl rfl (by omega) (by omega) rfl ?_ | refine J.bin rfl rfl rfl rfl ?_)
            refine J.move rfl rfl ?_
            refine J.nil ?_
            refine JX.thenN ?_
            refine JX.again ((decide (kN d ib < kN d ia), j + 1) : Bool × Nat) ?_ ?_ ?_
            · simp only; omega
            · exact ⟨rfl, rfl, rfl, rfl, rfl, rfl, rfl, rfl, rfl, rfl, rfl, rfl, trivial⟩
            · exact fun w1 hw => ⟨⟨hlt2, by rw [take_any hib, ← hok]; simp⟩, hw.drop (List.sublist_cons_self _ _)⟩
          · skip
            refine JC.region ?_
            refine J.move rfl rfl ?_
            refine J.move rfl rfl ?_
            first
              | (refine J.skip rfl rfl rfl rfl rfl ?_)
              | (refine J.skipU rfl rfl rfl rfl ?_)
              | (refine J.unguard rfl rfl rfl ?_; refine J.loadA (vs := cI d) Ty.a23 Ty.s23 rfl rfl (fun w1 hw => Cells.of_block (hw.own _ (.tail _ (.tail _ (.head _)))) rfl) rfl ?_)
            first
              | (refine J.skip rfl rfl rfl rfl rfl ?_)
              | (refine J.skipU rfl rfl rfl rfl ?_)
              | (refine J.unguard rfl rfl rfl ?_; refine J.loadA (vs := cI ib) Ty.a23 Ty.s23 rfl rfl (fun w1 hw => Cells.of_block (hw.own _ (.head _)) rfl) rfl ?_)
            first
              | (refine J.skip rfl rfl rfl rfl rfl ?_)
              | (refine J.skipU rfl rfl rfl rfl ?_)
              | (refine J.unguard rfl rfl rfl ?_; refine J.loadA (vs := cI ia) Ty.a23 Ty.s23 rfl rfl (fun w1 hw => Cells.of_block (hw.own _ (.tail _ (.head _))) rfl) rfl ?_)
            first
              | (refine J.skip rfl rfl rfl rfl rfl ?_)
              | (refine J.skipU rfl rfl rfl rfl ?_)
              | (refine J.unguard rfl rfl rfl ?_; refine J.callB (v := .bool (decide (kN d ib < kN d ia))) (fun w1 w2 hw hb => hw.step hb) Ty.bd27 rfl rfl (fun w1 hw => rnearer_spec d ib ia w1) ?_)
            (first | refine J.pickT rfl rfl rfl ?_ | refine J.pickF rfl rfl rfl ?_)
            refine J.assign rfl rfl ?_
            refine J.nil ?_
            refine JX.blockN ?_
            refine JX.thenN (hK17 _ _ ?_)
            refine JC.region ?_
            (first | refine J.addN rfl rfl (by omega) (by omega) rfl ?_ | refine J.bin rfl rfl rfl rfl ?_)
            refine J.move rfl rfl ?_
            refine J.nil ?_
            refine JX.thenN ?_
            refine JX.again ((true, j + 1) : Bool × Nat) ?_ ?_ ?_
            · simp only; omega
            · exact ⟨rfl, rfl, rfl, rfl, rfl, rfl, rfl, rfl, rfl, rfl, rfl, rfl, trivial⟩
            · exact fun w1 hw => ⟨⟨hlt2, by rw [take_any hib, ← hok]; simp⟩, hw.drop (List.sublist_cons_self _ _)⟩
        · skip
          have hge2 : j = (wantI ia ys hf).length := by simp at h2; omega
          have hokt : ok = true := by
            rw [hok, hge2, List.take_length]
            exact greedy_any hp2 (List.mem_of_getElem? hnx) hxn hmin (List.mem_of_getElem? hia)
          refine JC.exit ?_
          refine JX.thenE ?_
          refine JX.thenE ?_
          refine JX.blockE ?_
          refine JX.thenN (hK13 _ _ ?_)
          refine JC.seq (fun K19 hK19 => ?_)
          refine JC.region ?_
          refine J.move rfl rfl ?_
          refine J.not rfl rfl ?_
          refine J.name 53 rfl (show _ = Value.bool false by rw [hokt]; rfl) ?_
          refine J.nil ?_
          refine JX.thenN (hK19 _ _ ?_)
          first | refine JC.condF rfl ?_ | refine JC.cond rfl (fun h => by first | (exfalso; simp at h; omega) | (simp at h)) (fun _ => ?_)
          refine JC.skip ?_
          refine JX.blockN ?_
          refine JX.thenN (hK8 _ _ ?_)
          refine JC.region ?_
          (first | refine J.addN rfl rfl (by omega) (by omega) rfl ?_ | refine J.bin rfl rfl rfl rfl ?_)
          refine J.move rfl rfl ?_
          refine J.nil ?_
          refine JX.thenN ?_
          refine JX.again (i + 1) ?_ ?_ ?_
          · omega
          · exact ⟨rfl, rfl, rfl, rfl, rfl, rfl, rfl, trivial⟩
          · exact fun w1 hw => ⟨hlt, hw.drop (by simp)⟩
  · skip
    have hge : i = ys.length := by simp at h0; omega
    refine JC.exit ?_
    refine JX.thenE ?_
    refine JX.thenE ?_
    refine JX.blockE ?_
    refine JX.thenN (hK4 _ _ ?_)
    refine JC.seq (fun K20 hK20 => ?_)
    refine JC.region ?_
    refine J.callB (v := .bool true) (fun w1 w2 hw hb => hw.step hb) Ty.bd18 rfl rfl (fun w1 hw => fixed10_spec w1) ?_
    refine J.assign rfl rfl ?_
    refine J.nil ?_
    refine JX.thenN (hK20 _ _ ?_)
    refine JC.ret ?_
    refine JX.ret1 rfl rfl (fun w hw => ?_)
    exact ⟨rfl, (hw.drop (List.nil_sublist _)).below⟩

theorem ringGreedy_walk (w : World) (c : List Value) (x : IDV) (hx : RId w c x) (o : Sl IDV) (ho : RSl 16 16 RId w [o.v] o) (half : Int) (hh : (Lit.int .i64 half).wf = true) :
    Calls Try.prog 5 [.agg c.toArray, o.v, .int .i64 half].toArray w fun r w' => r = .returned (.bool true) ∧ Bel w w' := by
  have hx' : c = cI x := hx
  subst hx'
  exact greedys_spec x o.v o.xs half w (RSl.rowId ho)
end Go.Proofs.Ytdpbgmbicdgdbaa
