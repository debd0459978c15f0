/-
  RingWants: the walk.
-/
import Derived.Test.YtdpbgmbicdgdbaaLi
namespace Go.Proofs.Ytdpbgmbicdgdbaa
open Go.J Go.RowKit
set_option linter.unusedVariables false
set_option linter.unusedSimpArgs false
set_option maxRecDepth 4000
theorem wantI_le (me : IDV) (xs : List IDV) (half : Int) : (wantI me xs half).length ≤ xs.length := Nat.le_trans (List.length_filter_le _ _) (sortI_le xs me)

set_option maxHeartbeats 4000000 in
theorem wants_spec (self : IDV) (v : Value) (xs : List IDV) (half : Int) (w : World) (hr : Row w v xs.length (fI xs)) :
    Calls Try.prog 3 [.agg (cI self).toArray, v, .int .i64 half].toArray w fun r w' => r = .returned (.bool true) ∧ Bel w w' := by
  refine calls_of_J (args := [.agg (cI self).toArray, v, .int .i64 half]) (e := [(0, .agg (cI self).toArray), (1, v), (2, .int .i64 half)]) Try.func3 rfl rfl ⟨rfl, rfl, rfl, trivial⟩ (St.start w) ?_
  refine JC.seq (fun K0 hK0 => ?_)
  refine JC.region ?_
  refine J.box rfl rfl rfl (fun b3 => ?_)
  refine J.assign rfl rfl ?_
  refine J.nil ?_
  refine JX.thenN (hK0 _ _ ?_)
  refine JC.seq (fun K1 hK1 => ?_)
  refine JC.region ?_
  refine J.move rfl rfl ?_
  refine J.callB (v := cutV v (min xs.length 60)) (fun w1 w2 hw hb => hw.step hb) Ty.bd14 rfl rfl (fun w1 hw => cut_spec v xs 60 w1 (hr.below (hw.drop (List.nil_sublist _)).below)) ?_
  have hr2 := row_cut hr 60
  have hyl : (xs.take 60).length ≤ 60 := by rw [List.length_take]; omega
  generalize cutV v (min xs.length 60) = v2 at hr2 ⊢
  generalize xs.take 60 = ys at hr2 hyl ⊢
  obtain ⟨a2, c2, rfl, hc2, _⟩ := id hr2
  have hwl := wantI_le self ys half
  have hsl := sortI_le ys self
  refine J.assign rfl rfl ?_
  refine J.nil ?_
  refine JX.thenN (hK1 _ _ ?_)
  refine JC.seq (fun K2 hK2 => ?_)
  refine JC.region ?_
  refine J.move rfl rfl ?_
  refine J.perm ([] ++ ((b3, cb (cI self) 23) :: [])) (.refl _) ?_
  refine J.callS (α := Value × List (Nat × Obj)) (V := (·.1)) (Pr := fun x => Vec 23 16 x.1 (ys).length (fI (ys)) x.2) (L := (·.2)) (l1 := []) Ty.bd15 rfl rfl (fun w1 hw => copy_spec _ ys w1 (hr2.below (hw.drop (List.nil_sublist _)).below) (by omega)) (fun x hvc => ?_)
  obtain ⟨vc, lc⟩ := x
  simp only at hvc ⊢
  refine J.perm ((b3, cb (cI self) 23) :: lc) (by (refine perm_cnt (fun _ => ?_)); simp only [cntB_append, cntB_cons, cntB_nil, Nat.add_zero, Nat.zero_add]; try ac_rfl) ?_
  refine J.assign rfl rfl ?_
  refine J.nil ?_
  refine JX.thenN (hK2 _ _ ?_)
  refine JC.seq (fun K3 hK3 => ?_)
  apply JC.drawX (α := Value × List (Nat × Obj) × Value × List (Nat × Obj)) 7 (fun x => match x with | ⟨v17, l17, v20, l20⟩ => [.agg (cI self).toArray, .slice a2 ys.length c2, .int .i64 half, v17, .agg (cI self).toArray, .slice a2 ys.length c2, v20]) (fun m x => match x with | ⟨v17, l17, v20, l20⟩ => fun w1 => ((m 3 = true → Vec 23 16 v17 (wantI self ys half).length (fI (wantI self ys half)) l17) ∧ (m 6 = true → Vec 23 16 v20 (sortI ys self).length (fI (sortI ys self)) l20)) ∧ St w [] ((b3, cb (cI self) 23) :: ((bif m 3 then l17 else []) ++ ((bif m 6 then l20 else []) ++ lc))) w1) Ty.mixed rfl rfl rfl (by kernel_rfl) rfl rfl ?hinit ?hstep ?htail
  case hinit => exact fun w1 hw => ⟨(.slice none 0 0, [], .slice none 0 0, []), ⟨fun h => (by cases h), fun h => (by cases h)⟩, hw.drew⟩
  case hstep =>
    refine ⟨fun m x hm hp => ?_, fun m x hm hp => ?_, fun m x hm hp => ?_, fun m x hm hp => ?_, fun m x hm hp => ?_, fun m x hm hp => ?_, fun m x hm hp => ?_, trivial⟩
    · skip
      obtain ⟨v17, l17, v20, l20⟩ := x
      show J _ _ _ _ _ (_) (fun w1 => ((m 3 = true → Vec 23 16 v17 (wantI self ys half).length (fI (wantI self ys half)) l17) ∧ (m 6 = true → Vec 23 16 v20 (sortI ys self).length (fI (sortI ys self)) l20)) ∧ St w [] ((b3, cb (cI self) 23) :: ((bif m 3 then l17 else []) ++ ((bif m 6 then l20 else []) ++ lc))) w1)
      refine J.pr (fun hF => ?_)
      refine J.loadOA (vs := cI self) Ty.a23 Ty.s23 rfl (.head _) rfl rfl rfl ?_
      exact J.nil (JX.finB rfl (fun w1 hw => ⟨⟨⟨v17, l17, v20, l20⟩, rfl, fun _ _ _ => rfl, hF, hw⟩, trivial⟩))
    · skip
      obtain ⟨v17, l17, v20, l20⟩ := x
      show J _ _ _ _ _ (_) (fun w1 => ((m 3 = true → Vec 23 16 v17 (wantI self ys half).length (fI (wantI self ys half)) l17) ∧ (m 6 = true → Vec 23 16 v20 (sortI ys self).length (fI (sortI ys self)) l20)) ∧ St w [] ((b3, cb (cI self) 23) :: ((bif m 3 then l17 else []) ++ ((bif m 6 then l20 else []) ++ lc))) w1)
      refine J.pr (fun hF => ?_)
      refine J.move rfl rfl ?_
      exact J.nil (JX.finB rfl (fun w1 hw => ⟨⟨⟨v17, l17, v20, l20⟩, rfl, fun _ _ _ => rfl, hF, hw⟩, trivial⟩))
    · skip
      obtain ⟨v17, l17, v20, l20⟩ := x
      show J _ _ _ _ _ (_) (fun w1 => ((m 3 = true → Vec 23 16 v17 (wantI self ys half).length (fI (wantI self ys half)) l17) ∧ (m 6 = true → Vec 23 16 v20 (sortI ys self).length (fI (sortI ys self)) l20)) ∧ St w [] ((b3, cb (cI self) 23) :: ((bif m 3 then l17 else []) ++ ((bif m 6 then l20 else []) ++ lc))) w1)
      refine J.pr (fun hF => ?_)
      refine J.move rfl rfl ?_
      exact J.nil (JX.finB rfl (fun w1 hw => ⟨⟨⟨v17, l17, v20, l20⟩, rfl, fun _ _ _ => rfl, hF, hw⟩, trivial⟩))
    · skip
      obtain ⟨v17, l17, v20, l20⟩ := x
      show J _ _ _ _ _ ((16, .int .i64 half) :: (15, .slice a2 ys.length c2) :: (14, .agg (cI self).toArray) :: _) (fun w1 => ((m 3 = true → Vec 23 16 v17 (wantI self ys half).length (fI (wantI self ys half)) l17) ∧ (m 6 = true → Vec 23 16 v20 (sortI ys self).length (fI (sortI ys self)) l20)) ∧ St w [] ((b3, cb (cI self) 23) :: ((bif m 3 then l17 else []) ++ ((bif m 6 then l20 else []) ++ lc))) w1)
      refine J.pr (fun hF => ?_)
      refine J.perm ([] ++ ((b3, cb (cI self) 23) :: ((bif m 3 then l17 else []) ++ ((bif m 6 then l20 else []) ++ lc)))) (.refl _) ?_
      refine J.callS (α := Value × List (Nat × Obj)) (V := (·.1)) (Pr := fun x => Vec 23 16 x.1 (wantI self ys half).length (fI (wantI self ys half)) x.2) (L := (·.2)) (l1 := []) Ty.bd16 rfl rfl (fun w1 hw => want_spec self _ ys half w1 (hr2.below (hw.drop (List.nil_sublist _)).below) (by omega)) (fun x hvn => ?_)
      obtain ⟨vn, ln⟩ := x
      simp only at hvn ⊢
      refine J.nil (JX.finB rfl (fun w1 hw => ⟨⟨⟨vn, ln, v20, l20⟩, rfl, fun j h1 h2 => ?_, ?_⟩, trivial⟩))
      · match j, h1 with
        | 0, _ => rfl
        | 1, _ => rfl
        | 2, _ => rfl
        | 3, _ => exact absurd (h2.symm.trans hm) (by decide)
        | 4, _ => rfl
        | 5, _ => rfl
        | 6, _ => rfl
        | j + 7, h1 => omega
      show ((true = true → Vec 23 16 vn (wantI self ys half).length (fI (wantI self ys half)) ln) ∧ (m 6 = true → Vec 23 16 v20 (sortI ys self).length (fI (sortI ys self)) l20)) ∧ St w [] ((b3, cb (cI self) 23) :: ((bif true then ln else []) ++ ((bif m 6 then l20 else []) ++ lc))) w1
      simp only [hm, cond_true, cond_false] at hw ⊢
      exact ⟨⟨fun _ => hvn, hF.2⟩, hw.perm (by (refine perm_cnt (fun _ => ?_)); simp only [cntB_append, cntB_cons, cntB_nil, Nat.add_zero, Nat.zero_add]; try ac_rfl)⟩
    · skip
      obtain ⟨v17, l17, v20, l20⟩ := x
      show J _ _ _ _ _ (_) (fun w1 => ((m 3 = true → Vec 23 16 v17 (wantI self ys half).length (fI (wantI self ys half)) l17) ∧ (m 6 = true → Vec 23 16 v20 (sortI ys self).length (fI (sortI ys self)) l20)) ∧ St w [] ((b3, cb (cI self) 23) :: ((bif m 3 then l17 else []) ++ ((bif m 6 then l20 else []) ++ lc))) w1)
      refine J.pr (fun hF => ?_)
      refine J.loadOA (vs := cI self) Ty.a23 Ty.s23 rfl (.head _) rfl rfl rfl ?_
      exact J.nil (JX.finB rfl (fun w1 hw => ⟨⟨⟨v17, l17, v20, l20⟩, rfl, fun _ _ _ => rfl, hF, hw⟩, trivial⟩))
    · skip
      obtain ⟨v17, l17, v20, l20⟩ := x
      show J _ _ _ _ _ (_) (fun w1 => ((m 3 = true → Vec 23 16 v17 (wantI self ys half).length (fI (wantI self ys half)) l17) ∧ (m 6 = true → Vec 23 16 v20 (sortI ys self).length (fI (sortI ys self)) l20)) ∧ St w [] ((b3, cb (cI self) 23) :: ((bif m 3 then l17 else []) ++ ((bif m 6 then l20 else []) ++ lc))) w1)
      refine J.pr (fun hF => ?_)
      refine J.move rfl rfl ?_
      exact J.nil (JX.finB rfl (fun w1 hw => ⟨⟨⟨v17, l17, v20, l20⟩, rfl, fun _ _ _ => rfl, hF, hw⟩, trivial⟩))
    · skip
      obtain ⟨v17, l17, v20, l20⟩ := x
      show J _ _ _ _ _ ((17, v17) :: (19, .slice a2 ys.length c2) :: (18, .agg (cI self).toArray) :: _) (fun w1 => ((m 3 = true → Vec 23 16 v17 (wantI self ys half).length (fI (wantI self ys half)) l17) ∧ (m 6 = true → Vec 23 16 v20 (sortI ys self).length (fI (sortI ys self)) l20)) ∧ St w [] ((b3, cb (cI self) 23) :: ((bif m 3 then l17 else []) ++ ((bif m 6 then l20 else []) ++ lc))) w1)
      have hp3 : m 3 = true := predsT hp (by kernel_rfl)
      refine J.pr (fun hF => ?_)
      refine J.perm ([] ++ ((b3, cb (cI self) 23) :: ((bif m 3 then l17 else []) ++ ((bif m 6 then l20 else []) ++ lc)))) (.refl _) ?_
      refine J.callS (α := Value × List (Nat × Obj)) (V := (·.1)) (Pr := fun x => Vec 23 16 x.1 (sortI ys self).length (fI (sortI ys self)) x.2) (L := (·.2)) (l1 := []) Ty.bd17 rfl rfl (fun w1 hw => sorted_spec self _ ys w1 (hr2.below (hw.drop (List.nil_sublist _)).below) (by omega)) (fun x hvn => ?_)
      obtain ⟨vn, ln⟩ := x
      simp only at hvn ⊢
      refine J.nil (JX.finB rfl (fun w1 hw => ⟨⟨⟨v17, l17, vn, ln⟩, rfl, fun j h1 h2 => ?_, ?_⟩, trivial⟩))
      · match j, h1 with
        | 0, _ => rfl
        | 1, _ => rfl
        | 2, _ => rfl
        | 3, _ => rfl
        | 4, _ => rfl
        | 5, _ => rfl
        | 6, _ => exact absurd (h2.symm.trans hm) (by decide)
        | j + 7, h1 => omega
      show ((m 3 = true → Vec 23 16 v17 (wantI self ys half).length (fI (wantI self ys half)) l17) ∧ (true = true → Vec 23 16 vn (sortI ys self).length (fI (sortI ys self)) ln)) ∧ St w [] ((b3, cb (cI self) 23) :: ((bif m 3 then l17 else []) ++ ((bif true then ln else []) ++ lc))) w1
      simp only [hm, cond_true, cond_false] at hw ⊢
      exact ⟨⟨hF.1, fun _ => hvn⟩, hw.perm (by (refine perm_cnt (fun _ => ?_)); simp only [cntB_append, cntB_cons, cntB_nil, Nat.add_zero, Nat.zero_add]; try ac_rfl)⟩
  case htail =>
    intro x
    obtain ⟨v17, l17, v20, l20⟩ := x
    show J _ _ _ _ _ ((20, v20) :: (19, .slice a2 ys.length c2) :: (18, .agg (cI self).toArray) :: (17, v17) :: (16, .int .i64 half) :: (15, .slice a2 ys.length c2) :: (14, .agg (cI self).toArray) :: _) (fun w1 => ((true = true → Vec 23 16 v17 (wantI self ys half).length (fI (wantI self ys half)) l17) ∧ (true = true → Vec 23 16 v20 (sortI ys self).length (fI (sortI ys self)) l20)) ∧ St w [] ((b3, cb (cI self) 23) :: ((bif true then l17 else []) ++ ((bif true then l20 else []) ++ lc))) w1)
    refine J.pr (fun hF => ?_)
    have hv17 := hF.1 rfl
    have hv20 := hF.2 rfl
    refine J.conseq (I' := St w [] ((b3, cb (cI self) 23) :: (l17 ++ (l20 ++ lc)))) ?_ (fun w1 hw => hw)
    refine J.assign rfl rfl ?_
    refine J.assign rfl rfl ?_
    refine J.nil ?_
    refine JX.thenN (hK3 _ _ ?_)
    refine JC.seq (fun K4 hK4 => ?_)
    refine JC.region ?_
    refine J.callB (v := .bool true) (fun w1 w2 hw hb => hw.step hb) Ty.bd18 rfl rfl (fun w1 hw => fixed10_spec w1) ?_
    refine J.move rfl rfl ?_
    first
      | (refine J.skip rfl rfl rfl rfl rfl ?_)
      | (refine J.skipU rfl rfl rfl rfl ?_)
      | (refine J.unguard rfl rfl rfl ?_; refine J.move rfl rfl ?_)
    refine J.unguard rfl rfl rfl ?_
    refine J.loadOA (vs := cI self) Ty.a23 Ty.s23 rfl (.head _) rfl rfl rfl ?_
    first
      | (refine J.skip rfl rfl rfl rfl rfl ?_)
      | (refine J.skipU rfl rfl rfl rfl ?_)
      | (refine J.unguard rfl rfl rfl ?_; refine J.move rfl rfl ?_)
    first
      | (refine J.skip rfl rfl rfl rfl rfl ?_)
      | (refine J.skipU rfl rfl rfl rfl ?_)
      | (refine J.unguard rfl rfl rfl ?_; refine J.move rfl rfl ?_)
    refine J.unguard rfl rfl rfl ?_
    refine J.perm ([] ++ ((b3, cb (cI self) 23) :: (l17 ++ (l20 ++ lc)))) (.refl _) ?_
    refine J.callS (α := Value × List (Nat × Obj)) (V := (·.1)) (Pr := fun x => Vec 23 16 x.1 (wantI self ys half).length (fI (wantI self ys half)) x.2) (L := (·.2)) (l1 := []) Ty.bd20 rfl rfl (fun w1 hw => rwant_spec self vc ys half w1 (hvc.rowM hw (fun q hq => by simp [hq])) (by omega)) (fun x hv27 => ?_)
    obtain ⟨v27, l27⟩ := x
    simp only at hv27 ⊢
    refine J.unguard rfl rfl rfl ?_
    refine J.callB (v := .bool true) (fun w1 w2 hw hb => hw.step hb) Ty.bd19 rfl rfl (fun w1 hw => by
      have h := sameIDs_spec v17 v27 (wantI self ys half) (wantI self ys half) w1 (hv17.rowM hw (fun q hq => by simp [hq])) (hv27.rowM hw (fun q hq => by simp [hq])) (by omega) (by omega)
      simpa using h) ?_
    (first | refine J.pickT rfl rfl rfl ?_ | refine J.pickF rfl rfl rfl ?_)
    refine J.move rfl rfl ?_
    first
      | (refine J.skip rfl rfl rfl rfl rfl ?_)
      | (refine J.skipU rfl rfl rfl rfl ?_)
      | (refine J.unguard rfl rfl rfl ?_; refine J.move rfl rfl ?_)
    refine J.unguard rfl rfl rfl ?_
    refine J.loadOA (vs := cI self) Ty.a23 Ty.s23 rfl (List.mem_append_right _ (.head _)) rfl rfl rfl ?_
    first
      | (refine J.skip rfl rfl rfl rfl rfl ?_)
      | (refine J.skipU rfl rfl rfl rfl ?_)
      | (refine J.unguard rfl rfl rfl ?_; refine J.move rfl rfl ?_)
    refine J.unguard rfl rfl rfl ?_
    refine J.perm ([] ++ (l27 ++ ((b3, cb (cI self) 23) :: (l17 ++ (l20 ++ lc))))) (.refl _) ?_
    refine J.callS (α := Value × List (Nat × Obj)) (V := (·.1)) (Pr := fun x => Vec 23 16 x.1 (sortI ys self).length (fI (sortI ys self)) x.2) (L := (·.2)) (l1 := []) Ty.bd21 rfl rfl (fun w1 hw => rsorted_spec self vc ys w1 (hvc.rowM hw (fun q hq => by simp [hq])) (by omega)) (fun x hv34 => ?_)
    obtain ⟨v34, l34⟩ := x
    simp only at hv34 ⊢
    refine J.unguard rfl rfl rfl ?_
    refine J.callB (v := .bool true) (fun w1 w2 hw hb => hw.step hb) Ty.bd19 rfl rfl (fun w1 hw => by
      have h := sameIDs_spec v20 v34 (sortI ys self) (sortI ys self) w1 (hv20.rowM hw (fun q hq => by simp [hq])) (hv34.rowM hw (fun q hq => by simp [hq])) (by omega) (by omega)
      simpa using h) ?_
    (first | refine J.pickT rfl rfl rfl ?_ | refine J.pickF rfl rfl rfl ?_)
    refine J.move rfl rfl ?_
    first
      | (refine J.skip rfl rfl rfl rfl rfl ?_)
      | (refine J.skipU rfl rfl rfl rfl ?_)
      | (refine J.unguard rfl rfl rfl ?_; refine J.move rfl rfl ?_)
    first
      | (refine J.skip rfl rfl rfl rfl rfl ?_)
      | (refine J.skipU rfl rfl rfl rfl ?_)
      | (refine J.unguard rfl rfl rfl ?_; refine J.move rfl rfl ?_)
    refine J.unguard rfl rfl rfl ?_
    refine J.callB (v := .bool true) (fun w1 w2 hw hb => hw.step hb) Ty.bd19 rfl rfl (fun w1 hw => by
      have h := sameIDs_spec (.slice a2 ys.length c2) vc (ys) (ys) w1 (hr2.below (hw.drop (List.nil_sublist _)).below) (hvc.rowM hw (fun q hq => by simp [hq])) (by omega) (by omega)
      simpa using h) ?_
    (first | refine J.pickT rfl rfl rfl ?_ | refine J.pickF rfl rfl rfl ?_)
    refine J.assign rfl rfl ?_
    refine J.nil ?_
    refine JX.thenN (hK4 _ _ ?_)
    refine JC.ret ?_
    refine JX.ret1 rfl rfl (fun w hw => ?_)
    exact ⟨rfl, (hw.drop (List.nil_sublist _)).below⟩

theorem ringWants_walk (w : World) (c : List Value) (x : IDV) (hx : RId w c x) (o : Sl IDV) (ho : RSl 16 16 RId w [o.v] o) (half : Int) (hh : (Lit.int .i64 half).wf = true) :
    Calls Try.prog 3 [.agg c.toArray, o.v, .int .i64 half].toArray w fun r w' => r = .returned (.bool true) ∧ Bel w w' := by
  have hx' : c = cI x := hx
  subst hx'
  exact wants_spec x o.v o.xs half w (RSl.rowId ho)
end Go.Proofs.Ytdpbgmbicdgdbaa
