/-
  RingEnough: the walk.
-/
import Derived.Test.YtdpbgmbicdgdbaaLo
namespace Go.Proofs.Ytdpbgmbicdgdbaa
open Go.J Go.RowKit
set_option linter.unusedVariables false
set_option linter.unusedSimpArgs false
set_option maxRecDepth 4000

set_option maxHeartbeats 1000000 in
theorem enoughs_spec (x0 : IDV) (v : Value) (xs : List IDV) (half : Int) (w : World) (hr : Row w v xs.length (fI xs)) :
    Calls Try.prog 6 [v, .agg (cI x0).toArray, .int .i64 half].toArray w fun r w' => r = .returned (.bool true) ∧ Bel w w' := by
  refine calls_of_J (args := [v, .agg (cI x0).toArray, .int .i64 half]) (e := [(0, v), (1, .agg (cI x0).toArray), (2, .int .i64 half)]) Try.func6 rfl rfl ⟨rfl, rfl, rfl, trivial⟩ (St.start w) ?_
  refine JC.seq (fun K0 hK0 => ?_)
  refine JC.region ?_
  refine J.box rfl rfl rfl (fun b4 => ?_)
  refine J.assign rfl rfl ?_
  refine J.nil ?_
  refine JX.thenN (hK0 _ _ ?_)
  refine JC.seq (fun K1 hK1 => ?_)
  refine JC.region ?_
  refine J.move rfl rfl ?_
  refine J.callB (v := cutV v (min xs.length 24)) (fun w1 w2 hw hb => hw.step hb) Ty.bd14 rfl rfl (fun w1 hw => cut_spec v xs 24 w1 (hr.below (hw.drop (List.nil_sublist _)).below)) ?_
  have hr2 := row_cut hr 24
  have hyl : (xs.take 24).length ≤ 24 := by rw [List.length_take]; omega
  generalize cutV v (min xs.length 24) = v2 at hr2 ⊢
  generalize xs.take 24 = ys at hr2 hyl ⊢
  obtain ⟨a2, c2, rfl, hc2, _⟩ := id hr2
  refine J.assign rfl rfl ?_
  refine J.nil ?_
  refine JX.thenN (hK1 _ _ ?_)
  refine JC.seq (fun K2 hK2 => ?_)
  refine JC.seq (fun K3 hK3 => ?_)
  refine JC.region ?_
  refine J.move rfl rfl ?_
  refine J.lenS rfl Ty.u24 rfl rfl ?_
  refine J.move rfl rfl ?_
  refine J.nil ?_
  refine JX.thenN (hK3 _ _ ?_)
  refine JC.block ?_
  refine JC.conseq (JC.cov (f := (fun i => [(0, .slice a2 ys.length c2), (2, .int .i64 half), (4, .pointer (some ⟨b4, 0, none⟩)), (15, .slice a2 ys.length c2), (16, .int .i64 ((ys.length : Nat) : Int)), (17, .int .i64 ((i : Nat) : Int))]) 0) ⟨rfl, rfl, rfl, rfl, rfl, rfl, trivial⟩ (JC.loop (α := Nat) (fun i => [(0, .slice a2 ys.length c2), (2, .int .i64 half), (4, .pointer (some ⟨b4, 0, none⟩)), (15, .slice a2 ys.length c2), (16, .int .i64 ((ys.length : Nat) : Int)), (17, .int .i64 ((i : Nat) : Int))]) (fun i w' => (i ≤ ys.length) ∧ St w [] [(b4, cb (cI x0) 23)] w') (fun i => ys.length - i) 0 (fun i => ?_))) (fun w hw => ⟨Nat.zero_le _, hw⟩)
  refine JC.pr (fun hi => ?_)
  refine JC.seq (fun K4 hK4 => ?_)
  refine JC.region ?_
  refine J.bin rfl rfl rfl rfl ?_
  refine J.nil ?_
  refine JX.thenN (hK4 _ _ ?_)
  refine JC.seq (fun K5 hK5 => ?_)
  refine JC.cond rfl (fun h0 => ?_) (fun h0 => ?_)
  · skip
    have hlt : i < ys.length := by simp at h0; omega
    have hfys := fI_length ys
    have hcl := (Row.some hr2 (by omega))
    obtain ⟨q1, o1, c2', hqe, _, _⟩ := hcl
    simp only [Value.slice.injEq] at hqe
    obtain ⟨rfl, _, rfl⟩ := hqe
    obtain ⟨ia, hia⟩ : ∃ x, ys[i]? = some x := ⟨_, List.getElem?_eq_getElem hlt⟩
    refine JC.skip ?_
    refine JX.thenN (hK5 _ _ ?_)
    refine JC.seq (fun K6 hK6 => ?_)
    refine JC.block ?_
    refine JC.seq (fun K7 hK7 => ?_)
    refine JC.region ?_
    refine J.indexAddrS Ty.el24 Ty.s23 rfl rfl (by omega) (by omega) rfl ?_
    refine J.loadA (vs := cI ia) Ty.a23 Ty.s23 rfl rfl (fun w1 hw => rowF_at (hr2.below (hw.drop (List.nil_sublist _)).below) hia (by omega)) rfl ?_
    refine J.alloc Ty.zID rfl rfl (fun b8 => ?_)
    refine J.storeW (cs := cI zI) (vs := cI ia) Ty.s23 rfl rfl rfl rfl rfl (by simp [Value.oneCell']) .here ?_
    refine J.nil ?_
    refine JX.thenN (hK7 _ _ ?_)
    refine JC.seq (fun K8 hK8 => ?_)
    refine JC.region ?_
    refine J.loadA (vs := cI ia) Ty.a23 Ty.s23 rfl rfl (fun w1 hw => Cells.of_block (hw.own _ (.head _)) rfl) rfl ?_
    refine J.move rfl rfl ?_
    refine J.move rfl rfl ?_
    refine J.perm ([] ++ ((b8, cb (cI ia) 23) :: (b4, cb (cI x0) 23) :: [])) (.refl _) ?_
    refine J.callS (α := Value × List (Nat × Obj)) (V := (·.1)) (Pr := fun x => Vec 23 16 x.1 (wantI ia ys half).length (fI (wantI ia ys half)) x.2) (L := (·.2)) (l1 := []) Ty.bd16 rfl rfl (fun w1 hw => want_spec ia _ (ys) half w1 (hr2.below (hw.drop (List.nil_sublist _)).below) (by omega)) (fun x hvw => ?_)
    obtain ⟨vw, lw⟩ := x
    simp only at hvw ⊢
    have hwl := wantI_le ia ys half
    refine J.assign rfl rfl ?_
    refine J.nil ?_
    refine JX.thenN (hK8 _ _ ?_)
    refine JC.seq (fun K9 hK9 => ?_)
    refine JC.region ?_
    refine J.perm ((b8, cb (cI ia) 23) :: (lw ++ [(b4, cb (cI x0) 23)])) (by (refine perm_cnt (fun _ => ?_)); simp only [cntB_append, cntB_cons, cntB_nil, Nat.add_zero, Nat.zero_add]; try ac_rfl) ?_
    refine J.loadA (vs := cI ia) Ty.a23 Ty.s23 rfl rfl (fun w1 hw => Cells.of_block (hw.own _ (.head _)) rfl) rfl ?_
    refine J.move rfl rfl ?_
    refine J.move rfl rfl ?_
    refine J.perm ([] ++ ((b8, cb (cI ia) 23) :: (lw ++ [(b4, cb (cI x0) 23)]))) (.refl _) ?_
    refine J.callS (α := Value × List (Nat × Obj)) (V := (·.1)) (Pr := fun x => Vec 23 16 x.1 (wantI ia (wantI ia ys half) half).length (fI (wantI ia (wantI ia ys half) half)) x.2) (L := (·.2)) (l1 := []) Ty.bd16 rfl rfl (fun w1 hw => want_spec ia _ ((wantI ia ys half)) half w1 (hvw.rowM hw (fun q hq => by simp [hq])) (by omega)) (fun x hvw2 => ?_)
    obtain ⟨vw2, lw2⟩ := x
    simp only at hvw2 ⊢
    have hwl2 := wantI_le ia (wantI ia ys half) half
    rw [want_idem] at hvw2
    refine J.move rfl rfl ?_
    refine J.callB (v := .bool true) (fun w1 w2 hw hb => hw.step hb) Ty.bd19 rfl rfl (fun w1 hw => by
      have h := sameIDs_spec vw2 vw (wantI ia ys half) (wantI ia ys half) w1 (hvw2.rowM hw (fun q hq => by simp [hq])) (hvw.rowM hw (fun q hq => by simp [hq])) (by omega) (by omega)
      simpa using h) ?_
    refine J.name 30 rfl rfl ?_
    refine J.not rfl rfl ?_
    refine J.nil ?_
    refine JX.thenN (hK9 _ _ ?_)
    first | refine JC.condF rfl ?_ | refine JC.cond rfl (fun h => by first | (exfalso; simp at h; omega) | (simp at h)) (fun _ => ?_)
    refine JC.skip ?_
    refine JX.blockN ?_
    refine JX.thenN (hK6 _ _ ?_)
    refine JC.region ?_
    (first | refine J.addN rfl rfl (by omega) (by omega) rfl ?_ | refine J.bin rfl rfl rfl rfl ?_)
    refine J.move rfl rfl ?_
    refine J.nil ?_
    refine JX.thenN ?_
    refine JX.again (i + 1) ?_ ?_ ?_
    · omega
    · exact ⟨rfl, rfl, rfl, rfl, rfl, rfl, trivial⟩
    · exact fun w1 hw => ⟨hlt, hw.drop (by simp)⟩
  · skip
    have hge : i = ys.length := by simp at h0; omega
    refine JC.exit ?_
    refine JX.thenE ?_
    refine JX.thenE ?_
    refine JX.blockE ?_
    refine JX.thenN (hK2 _ _ ?_)
    refine JC.seq (fun K10 hK10 => ?_)
    refine JC.region ?_
    refine J.loadA (vs := cI x0) Ty.a23 Ty.s23 rfl rfl (fun w1 hw => Cells.of_block (hw.own _ (.head _)) rfl) rfl ?_
    refine J.move rfl rfl ?_
    refine J.callB (v := .tuple #[.agg (cI ((nextO x0 ys).getD zI)).toArray, .bool (nextO x0 ys).isSome]) (fun w1 w2 hw hb => hw.step hb) Ty.bd22 rfl rfl (fun w1 hw => next_spec x0 _ ys w1 (hr2.below (hw.drop (List.nil_sublist _)).below) (by omega)) ?_
    refine J.move rfl rfl ?_
    refine J.extract rfl rfl rfl ?_
    refine J.extract rfl rfl rfl ?_
    refine J.alloc Ty.zID rfl rfl (fun b10 => ?_)
    refine J.storeW (cs := cI zI) (vs := cI ((nextO x0 ys).getD zI)) Ty.s23 rfl rfl rfl rfl rfl (by simp [Value.oneCell']) .here ?_
    refine J.assign rfl rfl ?_
    refine J.nil ?_
    refine JX.thenN (hK10 _ _ ?_)
    refine JC.seq (fun K11 hK11 => ?_)
    refine JC.seq (fun K12 hK12 => ?_)
    generalize hno : nextO x0 ys = no
    cases no with
    | none =>
      refine JC.region ?_
      refine J.move rfl rfl ?_
      refine J.not rfl rfl ?_
      refine J.move rfl rfl ?_
      first
        | (refine J.skip rfl rfl rfl rfl rfl ?_)
        | (refine J.skipU rfl rfl rfl rfl ?_)
        | (refine J.unguard rfl rfl rfl ?_; refine J.move rfl rfl ?_)
      first
        | (refine J.skip rfl rfl rfl rfl rfl ?_)
        | (refine J.skipU rfl rfl rfl rfl ?_)
        | (refine J.unguard rfl rfl rfl ?_; refine J.loadA (vs := cI x0) Ty.a23 Ty.s23 rfl rfl (fun w1 hw => Cells.of_block (hw.own _ (.tail _ (.head _))) rfl) rfl ?_)
      first
        | (refine J.skip rfl rfl rfl rfl rfl ?_)
        | (refine J.skipU rfl rfl rfl rfl ?_)
        | (refine J.unguard rfl rfl rfl ?_; refine J.callB (v := .bool (decide (x0 ∈ ys))) (fun w1 w2 hw hb => hw.step hb) Ty.bd25 rfl rfl (fun w1 hw => rhas_spec _ ys x0 w1 (hr2.below (hw.drop (List.nil_sublist _)).below) (by omega)) ?_)
      (first | refine J.pickT rfl rfl rfl ?_ | refine J.pickF rfl rfl rfl ?_)
      refine J.nil ?_
      refine JX.thenN (hK12 _ _ ?_)
      first | refine JC.condT rfl ?_ | refine JC.cond rfl (fun _ => ?_) (fun h => by first | (exfalso; simp at h; omega) | (simp at h))
      refine JC.seq (fun K13 hK13 => ?_)
      refine JC.region ?_
      refine J.callB (v := .bool true) (fun w1 w2 hw hb => hw.step hb) Ty.bd18 rfl rfl (fun w1 hw => fixed10_spec w1) ?_
      refine J.assign rfl rfl ?_
      refine J.nil ?_
      refine JX.thenN (hK13 _ _ ?_)
      refine JC.ret ?_
      refine JX.thenR ?_
      refine JX.ret1 rfl rfl (fun w hw => ?_)
      exact ⟨rfl, (hw.drop (List.nil_sublist _)).below⟩
    | some nx =>
      refine JC.region ?_
      refine J.move rfl rfl ?_
      refine J.not rfl rfl ?_
      refine J.move rfl rfl ?_
      first
        | (refine J.skip rfl rfl rfl rfl rfl ?_)
        | (refine J.skipU rfl rfl rfl rfl ?_)
        | (refine J.unguard rfl rfl rfl ?_; refine J.move rfl rfl ?_)
      first
        | (refine J.skip rfl rfl rfl rfl rfl ?_)
        | (refine J.skipU rfl rfl rfl rfl ?_)
        | (refine J.unguard rfl rfl rfl ?_; refine J.loadA (vs := cI x0) Ty.a23 Ty.s23 rfl rfl (fun w1 hw => Cells.of_block (hw.own _ (.tail _ (.head _))) rfl) rfl ?_)
      first
        | (refine J.skip rfl rfl rfl rfl rfl ?_)
        | (refine J.skipU rfl rfl rfl rfl ?_)
        | (refine J.unguard rfl rfl rfl ?_; refine J.callB (v := .bool (decide (x0 ∈ ys))) (fun w1 w2 hw hb => hw.step hb) Ty.bd25 rfl rfl (fun w1 hw => rhas_spec _ ys x0 w1 (hr2.below (hw.drop (List.nil_sublist _)).below) (by omega)) ?_)
      (first | refine J.pickT rfl rfl rfl ?_ | refine J.pickF rfl rfl rfl ?_)
      refine J.nil ?_
      refine JX.thenN (hK12 _ _ ?_)
      refine JC.cond rfl (fun h2 => ?_) (fun h2 => ?_)
      · skip
        skip
        refine JC.seq (fun K14 hK14 => ?_)
        refine JC.region ?_
        refine J.callB (v := .bool true) (fun w1 w2 hw hb => hw.step hb) Ty.bd18 rfl rfl (fun w1 hw => fixed10_spec w1) ?_
        refine J.assign rfl rfl ?_
        refine J.nil ?_
        refine JX.thenN (hK14 _ _ ?_)
        refine JC.ret ?_
        refine JX.thenR ?_
        refine JX.ret1 rfl rfl (fun w hw => ?_)
        exact ⟨rfl, (hw.drop (List.nil_sublist _)).below⟩
      · skip
        have hx0 : x0 ∉ ys := by simpa using h2
        refine JC.skip ?_
        refine JX.thenN (hK11 _ _ ?_)
        refine JC.seq (fun K15 hK15 => ?_)
        apply JC.drawX (α := Value × List (Nat × Obj) × Value × List (Nat × Obj) × Nat × Value × List (Nat × Obj)) 8 (fun x => match x with | ⟨v50, l50, v51, l51, x53, v54, l54⟩ => [.agg (cI nx).toArray, .slice a2 ys.length c2, .int .i64 half, v50, v51, .agg (cI nx).toArray, .slice (some ⟨x53, 0, none⟩) 1 1, v54]) (fun m x => match x with | ⟨v50, l50, v51, l51, x53, v54, l54⟩ => fun w1 => ((m 3 = true → Vec 23 16 v50 (wantI nx ys half).length (fI (wantI nx ys half)) l50) ∧ (m 4 = true → Vec 23 16 v51 (wantI nx ys half).length (fI (wantI nx ys half)) l51) ∧ (m 7 = true → Vec 23 16 v54 ((wantI nx ys half ++ [nx])).length (fI ((wantI nx ys half ++ [nx]))) l54) ∧ (m 7 = true → m 4 = true)) ∧ St w [] ((b10, cb (cI nx) 23) :: (b4, cb (cI x0) 23) :: ((bif m 6 then [(x53, cb (cI nx) 23)] else []) ++ ((bif m 3 then l50 else []) ++ (bif m 7 then l54 else (bif m 4 then l51 else []))))) w1) Ty.mixed rfl rfl rfl (by kernel_rfl) rfl rfl ?hinit ?hstep ?htail
        case hinit => exact fun w1 hw => ⟨(.slice none 0 0, [], .slice none 0 0, [], 0, .slice none 0 0, []), ⟨fun h => (by cases h), fun h => (by cases h), fun h => (by cases h), fun h => (by cases h)⟩, hw.drew⟩
        case hstep =>
          refine ⟨fun m x hm hp => ?_, fun m x hm hp => ?_, fun m x hm hp => ?_, fun m x hm hp => ?_, fun m x hm hp => ?_, fun m x hm hp => ?_, fun m x hm hp => ?_, fun m x hm hp => ?_, trivial⟩
          · skip
            obtain ⟨v50, l50, v51, l51, x53, v54, l54⟩ := x
            show J _ _ _ _ _ (_) (fun w1 => ((m 3 = true → Vec 23 16 v50 (wantI nx ys half).length (fI (wantI nx ys half)) l50) ∧ (m 4 = true → Vec 23 16 v51 (wantI nx ys half).length (fI (wantI nx ys half)) l51) ∧ (m 7 = true → Vec 23 16 v54 ((wantI nx ys half ++ [nx])).length (fI ((wantI nx ys half ++ [nx]))) l54) ∧ (m 7 = true → m 4 = true)) ∧ St w [] ((b10, cb (cI nx) 23) :: (b4, cb (cI x0) 23) :: ((bif m 6 then [(x53, cb (cI nx) 23)] else []) ++ ((bif m 3 then l50 else []) ++ (bif m 7 then l54 else (bif m 4 then l51 else []))))) w1)
            refine J.pr (fun hF => ?_)
            refine J.loadA (vs := cI nx) Ty.a23 Ty.s23 rfl rfl (fun w1 hw => Cells.of_block (hw.own _ (.head _)) rfl) rfl ?_
            exact J.nil (JX.finB rfl (fun w1 hw => ⟨⟨⟨v50, l50, v51, l51, x53, v54, l54⟩, rfl, fun _ _ _ => rfl, hF, hw⟩, trivial⟩))
          · skip
            obtain ⟨v50, l50, v51, l51, x53, v54, l54⟩ := x
            show J _ _ _ _ _ (_) (fun w1 => ((m 3 = true → Vec 23 16 v50 (wantI nx ys half).length (fI (wantI nx ys half)) l50) ∧ (m 4 = true → Vec 23 16 v51 (wantI nx ys half).length (fI (wantI nx ys half)) l51) ∧ (m 7 = true → Vec 23 16 v54 ((wantI nx ys half ++ [nx])).length (fI ((wantI nx ys half ++ [nx]))) l54) ∧ (m 7 = true → m 4 = true)) ∧ St w [] ((b10, cb (cI nx) 23) :: (b4, cb (cI x0) 23) :: ((bif m 6 then [(x53, cb (cI nx) 23)] else []) ++ ((bif m 3 then l50 else []) ++ (bif m 7 then l54 else (bif m 4 then l51 else []))))) w1)
            refine J.pr (fun hF => ?_)
            refine J.move rfl rfl ?_
            exact J.nil (JX.finB rfl (fun w1 hw => ⟨⟨⟨v50, l50, v51, l51, x53, v54, l54⟩, rfl, fun _ _ _ => rfl, hF, hw⟩, trivial⟩))
          · skip
            obtain ⟨v50, l50, v51, l51, x53, v54, l54⟩ := x
            show J _ _ _ _ _ (_) (fun w1 => ((m 3 = true → Vec 23 16 v50 (wantI nx ys half).length (fI (wantI nx ys half)) l50) ∧ (m 4 = true → Vec 23 16 v51 (wantI nx ys half).length (fI (wantI nx ys half)) l51) ∧ (m 7 = true → Vec 23 16 v54 ((wantI nx ys half ++ [nx])).length (fI ((wantI nx ys half ++ [nx]))) l54) ∧ (m 7 = true → m 4 = true)) ∧ St w [] ((b10, cb (cI nx) 23) :: (b4, cb (cI x0) 23) :: ((bif m 6 then [(x53, cb (cI nx) 23)] else []) ++ ((bif m 3 then l50 else []) ++ (bif m 7 then l54 else (bif m 4 then l51 else []))))) w1)
            refine J.pr (fun hF => ?_)
            refine J.move rfl rfl ?_
            exact J.nil (JX.finB rfl (fun w1 hw => ⟨⟨⟨v50, l50, v51, l51, x53, v54, l54⟩, rfl, fun _ _ _ => rfl, hF, hw⟩, trivial⟩))
          · skip
            obtain ⟨v50, l50, v51, l51, x53, v54, l54⟩ := x
            show J _ _ _ _ _ ((49, .int .i64 half) :: (48, .slice a2 ys.length c2) :: (47, .agg (cI nx).toArray) :: _) (fun w1 => ((m 3 = true → Vec 23 16 v50 (wantI nx ys half).length (fI (wantI nx ys half)) l50) ∧ (m 4 = true → Vec 23 16 v51 (wantI nx ys half).length (fI (wantI nx ys half)) l51) ∧ (m 7 = true → Vec 23 16 v54 ((wantI nx ys half ++ [nx])).length (fI ((wantI nx ys half ++ [nx]))) l54) ∧ (m 7 = true → m 4 = true)) ∧ St w [] ((b10, cb (cI nx) 23) :: (b4, cb (cI x0) 23) :: ((bif m 6 then [(x53, cb (cI nx) 23)] else []) ++ ((bif m 3 then l50 else []) ++ (bif m 7 then l54 else (bif m 4 then l51 else []))))) w1)
            refine J.pr (fun hF => ?_)
            refine J.perm ([] ++ ((b10, cb (cI nx) 23) :: (b4, cb (cI x0) 23) :: ((bif m 6 then [(x53, cb (cI nx) 23)] else []) ++ ((bif m 3 then l50 else []) ++ (bif m 7 then l54 else (bif m 4 then l51 else [])))))) (.refl _) ?_
            refine J.callS (α := Value × List (Nat × Obj)) (V := (·.1)) (Pr := fun x => Vec 23 16 x.1 (wantI nx ys half).length (fI (wantI nx ys half)) x.2) (L := (·.2)) (l1 := []) Ty.bd16 rfl rfl (fun w1 hw => want_spec nx _ ys half w1 (hr2.below (hw.drop (List.nil_sublist _)).below) (by omega)) (fun x hvn => ?_)
            obtain ⟨vn, ln⟩ := x
            simp only at hvn ⊢
            refine J.nil (JX.finB rfl (fun w1 hw => ⟨⟨⟨vn, ln, v51, l51, x53, v54, l54⟩, rfl, fun j h1 h2 => ?_, ?_⟩, trivial⟩))
            · match j, h1 with
              | 0, _ => rfl
              | 1, _ => rfl
              | 2, _ => rfl
              | 3, _ => exact absurd (h2.symm.trans hm) (by decide)
              | 4, _ => rfl
              | 5, _ => rfl
              | 6, _ => rfl
              | 7, _ => rfl
              | j + 8, h1 => omega
            show ((true = true → Vec 23 16 vn (wantI nx ys half).length (fI (wantI nx ys half)) ln) ∧ (m 4 = true → Vec 23 16 v51 (wantI nx ys half).length (fI (wantI nx ys half)) l51) ∧ (m 7 = true → Vec 23 16 v54 ((wantI nx ys half ++ [nx])).length (fI ((wantI nx ys half ++ [nx]))) l54) ∧ (m 7 = true → m 4 = true)) ∧ St w [] ((b10, cb (cI nx) 23) :: (b4, cb (cI x0) 23) :: ((bif m 6 then [(x53, cb (cI nx) 23)] else []) ++ ((bif true then ln else []) ++ (bif m 7 then l54 else (bif m 4 then l51 else []))))) w1
            simp only [hm, cond_true, cond_false] at hw ⊢
            exact ⟨⟨fun _ => hvn, hF.2⟩, hw.perm (by (refine perm_cnt (fun _ => ?_)); simp only [cntB_append, cntB_cons, cntB_nil, Nat.add_zero, Nat.zero_add]; try ac_rfl)⟩
          · skip
            obtain ⟨v50, l50, v51, l51, x53, v54, l54⟩ := x
            show J _ _ _ _ _ ((50, v50) :: (50, v50) :: _) (fun w1 => ((m 3 = true → Vec 23 16 v50 (wantI nx ys half).length (fI (wantI nx ys half)) l50) ∧ (m 4 = true → Vec 23 16 v51 (wantI nx ys half).length (fI (wantI nx ys half)) l51) ∧ (m 7 = true → Vec 23 16 v54 ((wantI nx ys half ++ [nx])).length (fI ((wantI nx ys half ++ [nx]))) l54) ∧ (m 7 = true → m 4 = true)) ∧ St w [] ((b10, cb (cI nx) 23) :: (b4, cb (cI x0) 23) :: ((bif m 6 then [(x53, cb (cI nx) 23)] else []) ++ ((bif m 3 then l50 else []) ++ (bif m 7 then l54 else (bif m 4 then l51 else []))))) w1)
            have hp3 : m 3 = true := predsT hp (by kernel_rfl)
            have hp3 : m 3 = true := predsT hp (by kernel_rfl)
            refine J.pr (fun hF => ?_)
            have h7 : m 7 = false := by cases h : m 7 with
              | false => rfl
              | true => rw [hF.2.2.2 h] at hm; cases hm
            have hwl := wantI_le nx ys half
            refine J.perm ([] ++ ((b10, cb (cI nx) 23) :: (b4, cb (cI x0) 23) :: ((bif m 6 then [(x53, cb (cI nx) 23)] else []) ++ ((bif m 3 then l50 else []) ++ (bif m 7 then l54 else (bif m 4 then l51 else [])))))) (.refl _) ?_
            refine J.callS (α := Value × List (Nat × Obj)) (V := (·.1)) (Pr := fun x => Vec 23 16 x.1 (wantI nx ys half).length (fI (wantI nx ys half)) x.2) (L := (·.2)) (l1 := []) Ty.bd15 rfl rfl (fun w1 hw => copy_spec v50 (wantI nx ys half) w1 ((hF.1 hp3).rowM hw (fun q hq => by simp [hp3, hq])) (by omega)) (fun x hvn => ?_)
            obtain ⟨vn, ln⟩ := x
            simp only at hvn ⊢
            refine J.nil (JX.finB rfl (fun w1 hw => ⟨⟨⟨v50, l50, vn, ln, x53, v54, l54⟩, rfl, fun j h1 h2 => ?_, ?_⟩, trivial⟩))
            · match j, h1 with
              | 0, _ => rfl
              | 1, _ => rfl
              | 2, _ => rfl
              | 3, _ => rfl
              | 4, _ => exact absurd (h2.symm.trans hm) (by decide)
              | 5, _ => rfl
              | 6, _ => rfl
              | 7, _ => rfl
              | j + 8, h1 => omega
            show ((m 3 = true → Vec 23 16 v50 (wantI nx ys half).length (fI (wantI nx ys half)) l50) ∧ (true = true → Vec 23 16 vn (wantI nx ys half).length (fI (wantI nx ys half)) ln) ∧ (m 7 = true → Vec 23 16 v54 ((wantI nx ys half ++ [nx])).length (fI ((wantI nx ys half ++ [nx]))) l54) ∧ (m 7 = true → true = true)) ∧ St w [] ((b10, cb (cI nx) 23) :: (b4, cb (cI x0) 23) :: ((bif m 6 then [(x53, cb (cI nx) 23)] else []) ++ ((bif m 3 then l50 else []) ++ (bif m 7 then l54 else (bif true then ln else []))))) w1
            simp only [hm, h7, cond_true, cond_false] at hw ⊢
            exact ⟨⟨hF.1, fun _ => hvn, fun h => (by cases h), fun h => (by cases h)⟩, hw.perm (by (refine perm_cnt (fun _ => ?_)); simp only [cntB_append, cntB_cons, cntB_nil, Nat.add_zero, Nat.zero_add]; try ac_rfl)⟩
          · skip
            obtain ⟨v50, l50, v51, l51, x53, v54, l54⟩ := x
            show J _ _ _ _ _ (_) (fun w1 => ((m 3 = true → Vec 23 16 v50 (wantI nx ys half).length (fI (wantI nx ys half)) l50) ∧ (m 4 = true → Vec 23 16 v51 (wantI nx ys half).length (fI (wantI nx ys half)) l51) ∧ (m 7 = true → Vec 23 16 v54 ((wantI nx ys half ++ [nx])).length (fI ((wantI nx ys half ++ [nx]))) l54) ∧ (m 7 = true → m 4 = true)) ∧ St w [] ((b10, cb (cI nx) 23) :: (b4, cb (cI x0) 23) :: ((bif m 6 then [(x53, cb (cI nx) 23)] else []) ++ ((bif m 3 then l50 else []) ++ (bif m 7 then l54 else (bif m 4 then l51 else []))))) w1)
            refine J.pr (fun hF => ?_)
            refine J.loadA (vs := cI nx) Ty.a23 Ty.s23 rfl rfl (fun w1 hw => Cells.of_block (hw.own _ (.head _)) rfl) rfl ?_
            exact J.nil (JX.finB rfl (fun w1 hw => ⟨⟨⟨v50, l50, v51, l51, x53, v54, l54⟩, rfl, fun _ _ _ => rfl, hF, hw⟩, trivial⟩))
          · skip
            obtain ⟨v50, l50, v51, l51, x53, v54, l54⟩ := x
            show J _ _ _ _ _ ((52, .agg (cI nx).toArray) :: _) (fun w1 => ((m 3 = true → Vec 23 16 v50 (wantI nx ys half).length (fI (wantI nx ys half)) l50) ∧ (m 4 = true → Vec 23 16 v51 (wantI nx ys half).length (fI (wantI nx ys half)) l51) ∧ (m 7 = true → Vec 23 16 v54 ((wantI nx ys half ++ [nx])).length (fI ((wantI nx ys half ++ [nx]))) l54) ∧ (m 7 = true → m 4 = true)) ∧ St w [] ((b10, cb (cI nx) 23) :: (b4, cb (cI x0) 23) :: ((bif m 6 then [(x53, cb (cI nx) 23)] else []) ++ ((bif m 3 then l50 else []) ++ (bif m 7 then l54 else (bif m 4 then l51 else []))))) w1)
            refine J.pr (fun hF => ?_)
            refine J.buildSl Ty.el24 Ty.s23 Ty.zID rfl rfl rfl rfl rfl rfl rfl (fun b53 => ?_)
            refine J.nil (JX.finB rfl (fun w1 hw => ⟨⟨⟨v50, l50, v51, l51, b53, v54, l54⟩, rfl, fun j h1 h2 => ?_, ?_⟩, trivial⟩))
            · match j, h1 with
              | 0, _ => rfl
              | 1, _ => rfl
              | 2, _ => rfl
              | 3, _ => rfl
              | 4, _ => rfl
              | 5, _ => rfl
              | 6, _ => exact absurd (h2.symm.trans hm) (by decide)
              | 7, _ => rfl
              | j + 8, h1 => omega
            show ((m 3 = true → Vec 23 16 v50 (wantI nx ys half).length (fI (wantI nx ys half)) l50) ∧ (m 4 = true → Vec 23 16 v51 (wantI nx ys half).length (fI (wantI nx ys half)) l51) ∧ (m 7 = true → Vec 23 16 v54 ((wantI nx ys half ++ [nx])).length (fI ((wantI nx ys half ++ [nx]))) l54) ∧ (m 7 = true → m 4 = true)) ∧ St w [] ((b10, cb (cI nx) 23) :: (b4, cb (cI x0) 23) :: ((bif true then [(b53, cb (cI nx) 23)] else []) ++ ((bif m 3 then l50 else []) ++ (bif m 7 then l54 else (bif m 4 then l51 else []))))) w1
            simp only [hm, cond_true, cond_false] at hw ⊢
            exact ⟨hF, hw.perm (by (refine perm_cnt (fun _ => ?_)); simp only [cntB_append, cntB_cons, cntB_nil, Nat.add_zero, Nat.zero_add]; try ac_rfl)⟩
          · skip
            obtain ⟨v50, l50, v51, l51, x53, v54, l54⟩ := x
            show J _ _ _ _ _ ((51, v51) :: (53, .slice (some ⟨x53, 0, none⟩) 1 1) :: (51, v51) :: _) (fun w1 => ((m 3 = true → Vec 23 16 v50 (wantI nx ys half).length (fI (wantI nx ys half)) l50) ∧ (m 4 = true → Vec 23 16 v51 (wantI nx ys half).length (fI (wantI nx ys half)) l51) ∧ (m 7 = true → Vec 23 16 v54 ((wantI nx ys half ++ [nx])).length (fI ((wantI nx ys half ++ [nx]))) l54) ∧ (m 7 = true → m 4 = true)) ∧ St w [] ((b10, cb (cI nx) 23) :: (b4, cb (cI x0) 23) :: ((bif m 6 then [(x53, cb (cI nx) 23)] else []) ++ ((bif m 3 then l50 else []) ++ (bif m 7 then l54 else (bif m 4 then l51 else []))))) w1)
            have hp4 : m 4 = true := predsT hp (by kernel_rfl)
            have hp6 : m 6 = true := predsT hp (by kernel_rfl)
            have hp4 : m 4 = true := predsT hp (by kernel_rfl)
            refine J.pr (fun hF => ?_)
            have hwl := wantI_le nx ys half
            refine J.conseq (I' := St w [] (l51 ++ ((x53, cb (cI nx) 23) :: ((bif m 3 then l50 else []) ++ [(b10, cb (cI nx) 23), (b4, cb (cI x0) 23)])))) ?_ (fun w1 hw => by simp only [hm, hp4, hp6, cond_true, cond_false] at hw; exact hw.perm (by (refine perm_cnt (fun _ => ?_)); simp only [cntB_append, cntB_cons, cntB_nil, Nat.add_zero, Nat.zero_add]; try ac_rfl))
            refine J.append (lp := l51) (xs := fI (wantI nx ys half)) (ys := cI nx) (k := (wantI nx ys half).length) (m := 1) Ty.el24 Ty.s23 Ty.b23 Ty.zID rfl (.inl ⟨23, Ty.u24⟩) rfl rfl (hF.2.1 hp4) (fun w3 hw3 => .inl (Row.own hw3 (List.mem_append_right _ (.head _)) rfl (Nat.le_refl _))) rfl (fun y hy => fI_one (xs := [nx]) (by simpa [fI] using hy)) (by omega) (by omega) rfl (fun vn ln hvn => ?_)
            refine J.nil (JX.finB rfl (fun w1 hw => ⟨⟨⟨v50, l50, v51, l51, x53, vn, ln⟩, rfl, fun j h1 h2 => ?_, ?_⟩, trivial⟩))
            · match j, h1 with
              | 0, _ => rfl
              | 1, _ => rfl
              | 2, _ => rfl
              | 3, _ => rfl
              | 4, _ => rfl
              | 5, _ => rfl
              | 6, _ => rfl
              | 7, _ => exact absurd (h2.symm.trans hm) (by decide)
              | j + 8, h1 => omega
            show ((m 3 = true → Vec 23 16 v50 (wantI nx ys half).length (fI (wantI nx ys half)) l50) ∧ (m 4 = true → Vec 23 16 v51 (wantI nx ys half).length (fI (wantI nx ys half)) l51) ∧ (true = true → Vec 23 16 vn ((wantI nx ys half ++ [nx])).length (fI ((wantI nx ys half ++ [nx]))) ln) ∧ (true = true → m 4 = true)) ∧ St w [] ((b10, cb (cI nx) 23) :: (b4, cb (cI x0) 23) :: ((bif m 6 then [(x53, cb (cI nx) 23)] else []) ++ ((bif m 3 then l50 else []) ++ (bif true then ln else (bif m 4 then l51 else []))))) w1
            simp only [hm, hp6, cond_true, cond_false] at hw ⊢
            exact ⟨⟨hF.1, hF.2.1, fun _ => by rw [List.length_append, fI_append]; simpa [fI] using hvn, fun _ => hp4⟩, hw.perm (by (refine perm_cnt (fun _ => ?_)); simp only [cntB_append, cntB_cons, cntB_nil, Nat.add_zero, Nat.zero_add]; try ac_rfl)⟩
        case htail =>
          intro x
          obtain ⟨v50, l50, v51, l51, x53, v54, l54⟩ := x
          show J _ _ _ _ _ ((54, v54) :: (53, .slice (some ⟨x53, 0, none⟩) 1 1) :: (52, .agg (cI nx).toArray) :: (51, v51) :: (50, v50) :: (49, .int .i64 half) :: (48, .slice a2 ys.length c2) :: (47, .agg (cI nx).toArray) :: _) (fun w1 => ((true = true → Vec 23 16 v50 (wantI nx ys half).length (fI (wantI nx ys half)) l50) ∧ (true = true → Vec 23 16 v51 (wantI nx ys half).length (fI (wantI nx ys half)) l51) ∧ (true = true → Vec 23 16 v54 ((wantI nx ys half ++ [nx])).length (fI ((wantI nx ys half ++ [nx]))) l54) ∧ (true = true → true = true)) ∧ St w [] ((b10, cb (cI nx) 23) :: (b4, cb (cI x0) 23) :: ((bif true then [(x53, cb (cI nx) 23)] else []) ++ ((bif true then l50 else []) ++ (bif true then l54 else (bif true then l51 else []))))) w1)
          refine J.pr (fun hF => ?_)
          have hv54 := hF.2.2.1 rfl
          have hwl := wantI_le nx ys half
          refine J.conseq (I' := St w [] ((b10, cb (cI nx) 23) :: (b4, cb (cI x0) 23) :: (x53, cb (cI nx) 23) :: (l54 ++ l50))) ?_ (fun w1 hw => by simp only [cond_true] at hw; exact hw.perm (by (refine perm_cnt (fun _ => ?_)); simp only [cntB_append, cntB_cons, cntB_nil, Nat.add_zero, Nat.zero_add]; try ac_rfl))
          refine J.assign rfl rfl ?_
          refine J.nil ?_
          refine JX.thenN (hK15 _ _ ?_)
          refine JC.seq (fun K16 hK16 => ?_)
          apply JC.drawX (α := Value × List (Nat × Obj) × Value × List (Nat × Obj)) 12 (fun x => match x with | ⟨v60, l60, v64, l64⟩ => [.bool true, .bool true, .agg (cI x0).toArray, v54, .int .i64 half, v60, .agg (cI x0).toArray, .slice a2 ys.length c2, .int .i64 half, v64, .bool true, .bool true]) (fun m x => match x with | ⟨v60, l60, v64, l64⟩ => fun w1 => ((m 5 = true → Vec 23 16 v60 (wantI x0 ys half).length (fI (wantI x0 ys half)) l60) ∧ (m 9 = true → Vec 23 16 v64 (wantI x0 ys half).length (fI (wantI x0 ys half)) l64)) ∧ St w [] ((b10, cb (cI nx) 23) :: (b4, cb (cI x0) 23) :: (x53, cb (cI nx) 23) :: ((bif m 5 then l60 else []) ++ ((bif m 9 then l64 else []) ++ (l54 ++ l50)))) w1) Ty.mixed rfl rfl rfl (by kernel_rfl) rfl rfl ?hinit ?hstep ?htail
          case hinit => exact fun w1 hw => ⟨(.slice none 0 0, [], .slice none 0 0, []), ⟨fun h => (by cases h), fun h => (by cases h)⟩, hw.drew⟩
          case hstep =>
            refine ⟨fun m x hm hp => ?_, fun m x hm hp => ?_, fun m x hm hp => ?_, fun m x hm hp => ?_, fun m x hm hp => ?_, fun m x hm hp => ?_, fun m x hm hp => ?_, fun m x hm hp => ?_, fun m x hm hp => ?_, fun m x hm hp => ?_, fun m x hm hp => ?_, fun m x hm hp => ?_, trivial⟩
            · skip
              obtain ⟨v60, l60, v64, l64⟩ := x
              show J _ _ _ _ _ (_) (fun w1 => ((m 5 = true → Vec 23 16 v60 (wantI x0 ys half).length (fI (wantI x0 ys half)) l60) ∧ (m 9 = true → Vec 23 16 v64 (wantI x0 ys half).length (fI (wantI x0 ys half)) l64)) ∧ St w [] ((b10, cb (cI nx) 23) :: (b4, cb (cI x0) 23) :: (x53, cb (cI nx) 23) :: ((bif m 5 then l60 else []) ++ ((bif m 9 then l64 else []) ++ (l54 ++ l50)))) w1)
              refine J.pr (fun hF => ?_)
              refine J.callB (v := .bool true) (fun w1 w2 hw hb => hw.step hb) Ty.bd18 rfl rfl (fun w1 hw => fixed10_spec w1) ?_
              exact J.nil (JX.finB rfl (fun w1 hw => ⟨⟨⟨v60, l60, v64, l64⟩, rfl, fun _ _ _ => rfl, hF, hw⟩, trivial⟩))
            · skip
              obtain ⟨v60, l60, v64, l64⟩ := x
              show J _ _ _ _ _ ((55, .bool true) :: (55, .bool true) :: _) (fun w1 => ((m 5 = true → Vec 23 16 v60 (wantI x0 ys half).length (fI (wantI x0 ys half)) l60) ∧ (m 9 = true → Vec 23 16 v64 (wantI x0 ys half).length (fI (wantI x0 ys half)) l64)) ∧ St w [] ((b10, cb (cI nx) 23) :: (b4, cb (cI x0) 23) :: (x53, cb (cI nx) 23) :: ((bif m 5 then l60 else []) ++ ((bif m 9 then l64 else []) ++ (l54 ++ l50)))) w1)
              refine J.pr (fun hF => ?_)
              refine J.move rfl rfl ?_
              exact J.nil (JX.finB rfl (fun w1 hw => ⟨⟨⟨v60, l60, v64, l64⟩, rfl, fun _ _ _ => rfl, hF, hw⟩, trivial⟩))
            · skip
              obtain ⟨v60, l60, v64, l64⟩ := x
              show J _ _ _ _ _ ((56, .bool true) :: _) (fun w1 => ((m 5 = true → Vec 23 16 v60 (wantI x0 ys half).length (fI (wantI x0 ys half)) l60) ∧ (m 9 = true → Vec 23 16 v64 (wantI x0 ys half).length (fI (wantI x0 ys half)) l64)) ∧ St w [] ((b10, cb (cI nx) 23) :: (b4, cb (cI x0) 23) :: (x53, cb (cI nx) 23) :: ((bif m 5 then l60 else []) ++ ((bif m 9 then l64 else []) ++ (l54 ++ l50)))) w1)
              refine J.pr (fun hF => ?_)
              refine J.unguard rfl rfl rfl ?_
              refine J.loadA (vs := cI x0) Ty.a23 Ty.s23 rfl rfl (fun w1 hw => Cells.of_block (hw.own _ (.tail _ (.head _))) rfl) rfl ?_
              exact J.nil (JX.finB rfl (fun w1 hw => ⟨⟨⟨v60, l60, v64, l64⟩, rfl, fun _ _ _ => rfl, hF, hw⟩, trivial⟩))
            · skip
              obtain ⟨v60, l60, v64, l64⟩ := x
              show J _ _ _ _ _ ((56, .bool true) :: _) (fun w1 => ((m 5 = true → Vec 23 16 v60 (wantI x0 ys half).length (fI (wantI x0 ys half)) l60) ∧ (m 9 = true → Vec 23 16 v64 (wantI x0 ys half).length (fI (wantI x0 ys half)) l64)) ∧ St w [] ((b10, cb (cI nx) 23) :: (b4, cb (cI x0) 23) :: (x53, cb (cI nx) 23) :: ((bif m 5 then l60 else []) ++ ((bif m 9 then l64 else []) ++ (l54 ++ l50)))) w1)
              refine J.pr (fun hF => ?_)
              first
                | (refine J.skip rfl rfl rfl rfl rfl ?_)
                | (refine J.skipU rfl rfl rfl rfl ?_)
                | (refine J.unguard rfl rfl rfl ?_; refine J.move rfl rfl ?_)
              exact J.nil (JX.finB rfl (fun w1 hw => ⟨⟨⟨v60, l60, v64, l64⟩, rfl, fun _ _ _ => rfl, hF, hw⟩, trivial⟩))
            · skip
              obtain ⟨v60, l60, v64, l64⟩ := x
              show J _ _ _ _ _ ((56, .bool true) :: _) (fun w1 => ((m 5 = true → Vec 23 16 v60 (wantI x0 ys half).length (fI (wantI x0 ys half)) l60) ∧ (m 9 = true → Vec 23 16 v64 (wantI x0 ys half).length (fI (wantI x0 ys half)) l64)) ∧ St w [] ((b10, cb (cI nx) 23) :: (b4, cb (cI x0) 23) :: (x53, cb (cI nx) 23) :: ((bif m 5 then l60 else []) ++ ((bif m 9 then l64 else []) ++ (l54 ++ l50)))) w1)
              refine J.pr (fun hF => ?_)
              first
                | (refine J.skip rfl rfl rfl rfl rfl ?_)
                | (refine J.skipU rfl rfl rfl rfl ?_)
                | (refine J.unguard rfl rfl rfl ?_; refine J.move rfl rfl ?_)
              exact J.nil (JX.finB rfl (fun w1 hw => ⟨⟨⟨v60, l60, v64, l64⟩, rfl, fun _ _ _ => rfl, hF, hw⟩, trivial⟩))
            · skip
              obtain ⟨v60, l60, v64, l64⟩ := x
              show J _ _ _ _ _ ((56, .bool true) :: (56, .bool true) :: (59, .int .i64 half) :: (58, v54) :: (57, .agg (cI x0).toArray) :: _) (fun w1 => ((m 5 = true → Vec 23 16 v60 (wantI x0 ys half).length (fI (wantI x0 ys half)) l60) ∧ (m 9 = true → Vec 23 16 v64 (wantI x0 ys half).length (fI (wantI x0 ys half)) l64)) ∧ St w [] ((b10, cb (cI nx) 23) :: (b4, cb (cI x0) 23) :: (x53, cb (cI nx) 23) :: ((bif m 5 then l60 else []) ++ ((bif m 9 then l64 else []) ++ (l54 ++ l50)))) w1)
              refine J.pr (fun hF => ?_)
              refine J.unguard rfl rfl rfl ?_
              refine J.perm ([] ++ ((b10, cb (cI nx) 23) :: (b4, cb (cI x0) 23) :: (x53, cb (cI nx) 23) :: ((bif m 5 then l60 else []) ++ ((bif m 9 then l64 else []) ++ (l54 ++ l50))))) (.refl _) ?_
              refine J.callS (α := Value × List (Nat × Obj)) (V := (·.1)) (Pr := fun x => Vec 23 16 x.1 (wantI x0 ys half).length (fI (wantI x0 ys half)) x.2) (L := (·.2)) (l1 := []) Ty.bd16 rfl rfl (fun w1 hw => (by
                have h := want_spec x0 v54 (wantI nx ys half ++ [nx]) half w1 (hv54.rowM hw (fun q hq => by simp [hq])) (by simp; omega)
                rw [want_learn hx0 (nextO_some hno)] at h
                exact h)) (fun x hvn => ?_)
              obtain ⟨vn, ln⟩ := x
              simp only at hvn ⊢
              refine J.nil (JX.finB rfl (fun w1 hw => ⟨⟨⟨vn, ln, v64, l64⟩, rfl, fun j h1 h2 => ?_, ?_⟩, trivial⟩))
              · match j, h1 with
                | 0, _ => rfl
                | 1, _ => rfl
                | 2, _ => rfl
                | 3, _ => rfl
                | 4, _ => rfl
                | 5, _ => exact absurd (h2.symm.trans hm) (by decide)
                | 6, _ => rfl
                | 7, _ => rfl
                | 8, _ => rfl
                | 9, _ => rfl
                | 10, _ => rfl
                | 11, _ => rfl
                | j + 12, h1 => omega
              show ((true = true → Vec 23 16 vn (wantI x0 ys half).length (fI (wantI x0 ys half)) ln) ∧ (m 9 = true → Vec 23 16 v64 (wantI x0 ys half).length (fI (wantI x0 ys half)) l64)) ∧ St w [] ((b10, cb (cI nx) 23) :: (b4, cb (cI x0) 23) :: (x53, cb (cI nx) 23) :: ((bif true then ln else []) ++ ((bif m 9 then l64 else []) ++ (l54 ++ l50)))) w1
              simp only [hm, cond_true, cond_false] at hw ⊢
              exact ⟨⟨fun _ => hvn, hF.2⟩, hw.perm (by (refine perm_cnt (fun _ => ?_)); simp only [cntB_append, cntB_cons, cntB_nil, Nat.add_zero, Nat.zero_add]; try ac_rfl)⟩
            · skip
              obtain ⟨v60, l60, v64, l64⟩ := x
              show J _ _ _ _ _ ((56, .bool true) :: _) (fun w1 => ((m 5 = true → Vec 23 16 v60 (wantI x0 ys half).length (fI (wantI x0 ys half)) l60) ∧ (m 9 = true → Vec 23 16 v64 (wantI x0 ys half).length (fI (wantI x0 ys half)) l64)) ∧ St w [] ((b10, cb (cI nx) 23) :: (b4, cb (cI x0) 23) :: (x53, cb (cI nx) 23) :: ((bif m 5 then l60 else []) ++ ((bif m 9 then l64 else []) ++ (l54 ++ l50)))) w1)
              refine J.pr (fun hF => ?_)
              refine J.unguard rfl rfl rfl ?_
              refine J.loadA (vs := cI x0) Ty.a23 Ty.s23 rfl rfl (fun w1 hw => Cells.of_block (hw.own _ (.tail _ (.head _))) rfl) rfl ?_
              exact J.nil (JX.finB rfl (fun w1 hw => ⟨⟨⟨v60, l60, v64, l64⟩, rfl, fun _ _ _ => rfl, hF, hw⟩, trivial⟩))
            · skip
              obtain ⟨v60, l60, v64, l64⟩ := x
              show J _ _ _ _ _ ((56, .bool true) :: _) (fun w1 => ((m 5 = true → Vec 23 16 v60 (wantI x0 ys half).length (fI (wantI x0 ys half)) l60) ∧ (m 9 = true → Vec 23 16 v64 (wantI x0 ys half).length (fI (wantI x0 ys half)) l64)) ∧ St w [] ((b10, cb (cI nx) 23) :: (b4, cb (cI x0) 23) :: (x53, cb (cI nx) 23) :: ((bif m 5 then l60 else []) ++ ((bif m 9 then l64 else []) ++ (l54 ++ l50)))) w1)
              refine J.pr (fun hF => ?_)
              first
                | (refine J.skip rfl rfl rfl rfl rfl ?_)
                | (refine J.skipU rfl rfl rfl rfl ?_)
                | (refine J.unguard rfl rfl rfl ?_; refine J.move rfl rfl ?_)
              exact J.nil (JX.finB rfl (fun w1 hw => ⟨⟨⟨v60, l60, v64, l64⟩, rfl, fun _ _ _ => rfl, hF, hw⟩, trivial⟩))
            · skip
              obtain ⟨v60, l60, v64, l64⟩ := x
              show J _ _ _ _ _ ((56, .bool true) :: _) (fun w1 => ((m 5 = true → Vec 23 16 v60 (wantI x0 ys half).length (fI (wantI x0 ys half)) l60) ∧ (m 9 = true → Vec 23 16 v64 (wantI x0 ys half).length (fI (wantI x0 ys half)) l64)) ∧ St w [] ((b10, cb (cI nx) 23) :: (b4, cb (cI x0) 23) :: (x53, cb (cI nx) 23) :: ((bif m 5 then l60 else []) ++ ((bif m 9 then l64 else []) ++ (l54 ++ l50)))) w1)
              refine J.pr (fun hF => ?_)
              first
                | (refine J.skip rfl rfl rfl rfl rfl ?_)
                | (refine J.skipU rfl rfl rfl rfl ?_)
                | (refine J.unguard rfl rfl rfl ?_; refine J.move rfl rfl ?_)
              exact J.nil (JX.finB rfl (fun w1 hw => ⟨⟨⟨v60, l60, v64, l64⟩, rfl, fun _ _ _ => rfl, hF, hw⟩, trivial⟩))
            · skip
              obtain ⟨v60, l60, v64, l64⟩ := x
              show J _ _ _ _ _ ((56, .bool true) :: (60, v60) :: (63, .int .i64 half) :: (62, .slice a2 ys.length c2) :: (61, .agg (cI x0).toArray) :: _) (fun w1 => ((m 5 = true → Vec 23 16 v60 (wantI x0 ys half).length (fI (wantI x0 ys half)) l60) ∧ (m 9 = true → Vec 23 16 v64 (wantI x0 ys half).length (fI (wantI x0 ys half)) l64)) ∧ St w [] ((b10, cb (cI nx) 23) :: (b4, cb (cI x0) 23) :: (x53, cb (cI nx) 23) :: ((bif m 5 then l60 else []) ++ ((bif m 9 then l64 else []) ++ (l54 ++ l50)))) w1)
              have hp5 : m 5 = true := predsT hp (by kernel_rfl)
              refine J.pr (fun hF => ?_)
              refine J.unguard rfl rfl rfl ?_
              refine J.perm ([] ++ ((b10, cb (cI nx) 23) :: (b4, cb (cI x0) 23) :: (x53, cb (cI nx) 23) :: ((bif m 5 then l60 else []) ++ ((bif m 9 then l64 else []) ++ (l54 ++ l50))))) (.refl _) ?_
              refine J.callS (α := Value × List (Nat × Obj)) (V := (·.1)) (Pr := fun x => Vec 23 16 x.1 (wantI x0 ys half).length (fI (wantI x0 ys half)) x.2) (L := (·.2)) (l1 := []) Ty.bd16 rfl rfl (fun w1 hw => want_spec x0 _ ys half w1 (hr2.below (hw.drop (List.nil_sublist _)).below) (by omega)) (fun x hvn => ?_)
              obtain ⟨vn, ln⟩ := x
              simp only at hvn ⊢
              refine J.nil (JX.finB rfl (fun w1 hw => ⟨⟨⟨v60, l60, vn, ln⟩, rfl, fun j h1 h2 => ?_, ?_⟩, trivial⟩))
              · match j, h1 with
                | 0, _ => rfl
                | 1, _ => rfl
                | 2, _ => rfl
                | 3, _ => rfl
                | 4, _ => rfl
                | 5, _ => rfl
                | 6, _ => rfl
                | 7, _ => rfl
                | 8, _ => rfl
                | 9, _ => exact absurd (h2.symm.trans hm) (by decide)
                | 10, _ => rfl
                | 11, _ => rfl
                | j + 12, h1 => omega
              show ((m 5 = true → Vec 23 16 v60 (wantI x0 ys half).length (fI (wantI x0 ys half)) l60) ∧ (true = true → Vec 23 16 vn (wantI x0 ys half).length (fI (wantI x0 ys half)) ln)) ∧ St w [] ((b10, cb (cI nx) 23) :: (b4, cb (cI x0) 23) :: (x53, cb (cI nx) 23) :: ((bif m 5 then l60 else []) ++ ((bif true then ln else []) ++ (l54 ++ l50)))) w1
              simp only [hm, cond_true, cond_false] at hw ⊢
              exact ⟨⟨hF.1, fun _ => hvn⟩, hw.perm (by (refine perm_cnt (fun _ => ?_)); simp only [cntB_append, cntB_cons, cntB_nil, Nat.add_zero, Nat.zero_add]; try ac_rfl)⟩
            · skip
              obtain ⟨v60, l60, v64, l64⟩ := x
              show J _ _ _ _ _ ((56, .bool true) :: (64, v64) :: (64, v64) :: (60, v60) :: _) (fun w1 => ((m 5 = true → Vec 23 16 v60 (wantI x0 ys half).length (fI (wantI x0 ys half)) l60) ∧ (m 9 = true → Vec 23 16 v64 (wantI x0 ys half).length (fI (wantI x0 ys half)) l64)) ∧ St w [] ((b10, cb (cI nx) 23) :: (b4, cb (cI x0) 23) :: (x53, cb (cI nx) 23) :: ((bif m 5 then l60 else []) ++ ((bif m 9 then l64 else []) ++ (l54 ++ l50)))) w1)
              have hp5 : m 5 = true := predsT hp (by kernel_rfl)
              have hp9 : m 9 = true := predsT hp (by kernel_rfl)
              have hp9 : m 9 = true := predsT hp (by kernel_rfl)
              refine J.pr (fun hF => ?_)
              refine J.unguard rfl rfl rfl ?_
              have hwx := wantI_le x0 ys half
              refine J.callB (v := .bool true) (fun w1 w2 hw hb => hw.step hb) Ty.bd19 rfl rfl (fun w1 hw => by
                have h := sameIDs_spec v60 v64 (wantI x0 ys half) (wantI x0 ys half) w1 ((hF.1 hp5).rowM hw (fun q hq => by simp [hp5, hq])) ((hF.2 hp9).rowM hw (fun q hq => by simp [hp9, hq])) (by omega) (by omega)
                simpa using h) ?_
              exact J.nil (JX.finB rfl (fun w1 hw => ⟨⟨⟨v60, l60, v64, l64⟩, rfl, fun _ _ _ => rfl, hF, hw⟩, trivial⟩))
            · skip
              obtain ⟨v60, l60, v64, l64⟩ := x
              show J _ _ _ _ _ ((65, .bool true) :: (56, .bool true) :: _) (fun w1 => ((m 5 = true → Vec 23 16 v60 (wantI x0 ys half).length (fI (wantI x0 ys half)) l60) ∧ (m 9 = true → Vec 23 16 v64 (wantI x0 ys half).length (fI (wantI x0 ys half)) l64)) ∧ St w [] ((b10, cb (cI nx) 23) :: (b4, cb (cI x0) 23) :: (x53, cb (cI nx) 23) :: ((bif m 5 then l60 else []) ++ ((bif m 9 then l64 else []) ++ (l54 ++ l50)))) w1)
              refine J.pr (fun hF => ?_)
              (first | refine J.pickT rfl rfl rfl ?_ | refine J.pickF rfl rfl rfl ?_)
              exact J.nil (JX.finB rfl (fun w1 hw => ⟨⟨⟨v60, l60, v64, l64⟩, rfl, fun _ _ _ => rfl, hF, hw⟩, trivial⟩))
          case htail =>
            intro x
            obtain ⟨v60, l60, v64, l64⟩ := x
            show J _ _ _ _ _ ((66, .bool true) :: (65, .bool true) :: (64, v64) :: (63, .int .i64 half) :: (62, .slice a2 ys.length c2) :: (61, .agg (cI x0).toArray) :: (60, v60) :: (59, .int .i64 half) :: (58, v54) :: (57, .agg (cI x0).toArray) :: (56, .bool true) :: (55, .bool true) :: _) (fun w1 => ((true = true → Vec 23 16 v60 (wantI x0 ys half).length (fI (wantI x0 ys half)) l60) ∧ (true = true → Vec 23 16 v64 (wantI x0 ys half).length (fI (wantI x0 ys half)) l64)) ∧ St w [] ((b10, cb (cI nx) 23) :: (b4, cb (cI x0) 23) :: (x53, cb (cI nx) 23) :: ((bif true then l60 else []) ++ ((bif true then l64 else []) ++ (l54 ++ l50)))) w1)
            refine J.pr (fun hF => ?_)
            refine J.conseq (I' := St w [] ((b10, cb (cI nx) 23) :: (b4, cb (cI x0) 23) :: (x53, cb (cI nx) 23) :: (l54 ++ l50))) ?_ (fun w1 hw => by simp only [cond_true] at hw; exact hw.drop (.cons_cons _ (.cons_cons _ (.cons_cons _ ((List.sublist_append_right _ _).trans (List.sublist_append_right _ _))))))
            refine J.assign rfl rfl ?_
            refine J.nil ?_
            refine JX.thenN (hK16 _ _ ?_)
            refine JC.ret ?_
            refine JX.ret1 rfl rfl (fun w hw => ?_)
            exact ⟨rfl, (hw.drop (List.nil_sublist _)).below⟩

theorem ringEnough_walk (w : World) (o : Sl IDV) (ho : RSl 16 16 RId w [o.v] o) (c : List Value) (x : IDV) (hx : RId w c x) (half : Int) (hh : (Lit.int .i64 half).wf = true) :
    Calls Try.prog 6 [o.v, .agg c.toArray, .int .i64 half].toArray w fun r w' => r = .returned (.bool true) ∧ Bel w w' := by
  have hx' : c = cI x := hx
  subst hx'
  exact enoughs_spec x o.v o.xs half w (RSl.rowId ho)
end Go.Proofs.Ytdpbgmbicdgdbaa
