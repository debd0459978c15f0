/-
  The law's fixed of layer 10: contract.
-/
import Derived.Test.YtdpbgmbicdgdbaaLg
namespace Go.Proofs.Ytdpbgmbicdgdbaa
open Go.J Go.RowKit
set_option linter.unusedVariables false
set_option linter.unusedSimpArgs false
set_option maxRecDepth 4000

set_option maxHeartbeats 4000000 in
theorem fixed10_spec (w : World) :
    Calls Try.prog 18 [].toArray w fun r w' => r = .returned (.bool true) ∧ Bel w w' := by
  refine calls_of_J (args := []) (e := []) Try.func18 rfl rfl trivial (St.start w) ?_
  refine JC.seq (fun K0 hK0 => ?_)
  refine JC.region ?_
  refine J.assign rfl rfl ?_
  refine J.nil ?_
  refine JX.thenN (hK0 _ _ ?_)
  refine JC.seq (fun K1 hK1 => ?_)
  refine JC.region ?_
  refine J.callB (v := .agg (cI (nI 1)).toArray) (fun w1 w2 hw hb => hw.step hb) Ty.bd44 rfl rfl (fun w1 hw => n_spec 1 w1) ?_
  refine J.callB (v := .agg (cI (nI 4)).toArray) (fun w1 w2 hw hb => hw.step hb) Ty.bd44 rfl rfl (fun w1 hw => n_spec 4 w1) ?_
  refine J.callB (v := .agg (cI (nI 9)).toArray) (fun w1 w2 hw hb => hw.step hb) Ty.bd44 rfl rfl (fun w1 hw => n_spec 9 w1) ?_
  refine J.callB (v := .agg (cI (nI 12)).toArray) (fun w1 w2 hw hb => hw.step hb) Ty.bd44 rfl rfl (fun w1 hw => n_spec 12 w1) ?_
  refine J.buildSl (cs := fI L4) Ty.el24 Ty.s23 Ty.zID rfl rfl rfl rfl (by kernel_rfl) rfl rfl (fun b8 => ?_)
  refine J.assign rfl rfl ?_
  refine J.nil ?_
  refine JX.thenN (hK1 _ _ ?_)
  refine JC.seq (fun K2 hK2 => ?_)
  refine JC.region ?_
  refine J.callB (v := .agg (cI (nI 12)).toArray) (fun w1 w2 hw hb => hw.step hb) Ty.bd44 rfl rfl (fun w1 hw => n_spec 12 w1) ?_
  refine J.move rfl rfl ?_
  refine J.callB (v := .tuple #[.agg (cI (nI 1)).toArray, .bool true]) (fun w1 w2 hw hb => hw.step hb) Ty.bd22 rfl rfl (fun w1 hw => by
    have h := next_spec (nI 12) (.slice (some ⟨b8, 0, none⟩) 4 4) L4 w1 (Row.own (cs := fI L4) (tb := 23) (fr := (0, 0)) hw (.head _) rfl (Nat.le_refl _)) (by decide)
    rw [next1] at h
    exact h) ?_
  refine J.move rfl rfl ?_
  refine J.extract rfl rfl rfl ?_
  refine J.extract rfl rfl rfl ?_
  refine J.alloc Ty.zID rfl rfl (fun b2 => ?_)
  refine J.storeW (cs := cI zI) (vs := cI (nI 1)) Ty.s23 rfl rfl rfl rfl rfl (by simp [Value.oneCell']) .here ?_
  refine J.assign rfl rfl ?_
  refine J.nil ?_
  refine JX.thenN (hK2 _ _ ?_)
  refine JC.seq (fun K3 hK3 => ?_)
  apply JC.drawX (α := Value × List (Nat × Obj) × Nat × Value × List (Nat × Obj) × Nat × Value × List (Nat × Obj) × Nat) 45 (fun x => match x with | ⟨v17, l17, b20, v25, l25, b28, v34, l34, b38⟩ => [.agg (cI (nI 4)).toArray, .slice (some ⟨b8, 0, none⟩) 4 4, v17, .agg (cI (nI 1)).toArray, .agg (cI (nI 9)).toArray, .slice (some ⟨b20, 0, none⟩) 2 2, .bool true, .bool true, .agg (cI (nI 12)).toArray, .slice (some ⟨b8, 0, none⟩) 4 4, v25, .agg (cI (nI 1)).toArray, .agg (cI (nI 9)).toArray, .slice (some ⟨b28, 0, none⟩) 2 2, .bool true, .bool true, .bool true, .agg (cI (nI 4)).toArray, .slice (some ⟨b8, 0, none⟩) 4 4, v34, .agg (cI (nI 1)).toArray, .agg (cI (nI 9)).toArray, .agg (cI (nI 12)).toArray, .slice (some ⟨b38, 0, none⟩) 3 3, .bool true, .bool true, .bool true, .bool true, .bool true, .bool true, .agg (cI (nI 1)).toArray, .agg (cI (nI 1)).toArray, .bool true, .bool true, .bool true, .slice (some ⟨b8, 0, none⟩) 4 4, .agg (cI (nI 9)).toArray, .bool true, .bool true, .bool true, .slice (some ⟨b8, 0, none⟩) 4 4, .agg (cI (nI 2)).toArray, .bool false, .bool true, .bool true]) (fun m x => match x with | ⟨v17, l17, b20, v25, l25, b28, v34, l34, b38⟩ => fun w1 => ((m 2 = true → Vec 23 16 v17 2 (fI [nI 1, nI 9]) l17) ∧ (m 10 = true → Vec 23 16 v25 2 (fI [nI 1, nI 9]) l25) ∧ (m 19 = true → Vec 23 16 v34 3 (fI [nI 1, nI 9, nI 12]) l34)) ∧ St w [] ((b2, cb (cI (nI 1)) 23) :: (b8, cb (fI L4) 23) :: ((bif m 2 then l17 else []) ++ (bif m 5 then [(b20, cb (fI [nI 1, nI 9]) 23)] else []) ++ (bif m 10 then l25 else []) ++ (bif m 13 then [(b28, cb (fI [nI 1, nI 9]) 23)] else []) ++ (bif m 19 then l34 else []) ++ (bif m 23 then [(b38, cb (fI [nI 1, nI 9, nI 12]) 23)] else []))) w1) Ty.mixed rfl rfl rfl (by kernel_rfl) rfl rfl ?hinit ?hstep ?htail
  case hinit => exact fun w1 hw => ⟨(.slice none 0 0, [], 0, .slice none 0 0, [], 0, .slice none 0 0, [], 0), ⟨fun h => (by cases h), fun h => (by cases h), fun h => (by cases h)⟩, hw.drew⟩
  case hstep =>
    refine ⟨fun m x hm hp => ?_, fun m x hm hp => ?_, fun m x hm hp => ?_, fun m x hm hp => ?_, fun m x hm hp => ?_, fun m x hm hp => ?_, fun m x hm hp => ?_, fun m x hm hp => ?_, fun m x hm hp => ?_, fun m x hm hp => ?_, fun m x hm hp => ?_, fun m x hm hp => ?_, fun m x hm hp => ?_, fun m x hm hp => ?_, fun m x hm hp => ?_, fun m x hm hp => ?_, fun m x hm hp => ?_, fun m x hm hp => ?_, fun m x hm hp => ?_, fun m x hm hp => ?_, fun m x hm hp => ?_, fun m x hm hp => ?_, fun m x hm hp => ?_, fun m x hm hp => ?_, fun m x hm hp => ?_, fun m x hm hp => ?_, fun m x hm hp => ?_, fun m x hm hp => ?_, fun m x hm hp => ?_, fun m x hm hp => ?_, fun m x hm hp => ?_, fun m x hm hp => ?_, fun m x hm hp => ?_, fun m x hm hp => ?_, fun m x hm hp => ?_, fun m x hm hp => ?_, fun m x hm hp => ?_, fun m x hm hp => ?_, fun m x hm hp => ?_, fun m x hm hp => ?_, fun m x hm hp => ?_, fun m x hm hp => ?_, fun m x hm hp => ?_, fun m x hm hp => ?_, fun m x hm hp => ?_, trivial⟩
    · skip
      obtain ⟨v17, l17, b20, v25, l25, b28, v34, l34, b38⟩ := x
      show J _ _ _ _ _ (_) (fun w1 => ((m 2 = true → Vec 23 16 v17 2 (fI [nI 1, nI 9]) l17) ∧ (m 10 = true → Vec 23 16 v25 2 (fI [nI 1, nI 9]) l25) ∧ (m 19 = true → Vec 23 16 v34 3 (fI [nI 1, nI 9, nI 12]) l34)) ∧ St w [] ((b2, cb (cI (nI 1)) 23) :: (b8, cb (fI L4) 23) :: ((bif m 2 then l17 else []) ++ (bif m 5 then [(b20, cb (fI [nI 1, nI 9]) 23)] else []) ++ (bif m 10 then l25 else []) ++ (bif m 13 then [(b28, cb (fI [nI 1, nI 9]) 23)] else []) ++ (bif m 19 then l34 else []) ++ (bif m 23 then [(b38, cb (fI [nI 1, nI 9, nI 12]) 23)] else []))) w1)
      refine J.pr (fun hF => ?_)
      refine J.callB (v := .agg (cI (nI 4)).toArray) (fun w1 w2 hw hb => hw.step hb) Ty.bd44 rfl rfl (fun w1 hw => n_spec 4 w1) ?_
      exact J.nil (JX.finB rfl (fun w1 hw => ⟨⟨⟨v17, l17, b20, v25, l25, b28, v34, l34, b38⟩, rfl, fun _ _ _ => rfl, hF, hw⟩, trivial⟩))
    · skip
      obtain ⟨v17, l17, b20, v25, l25, b28, v34, l34, b38⟩ := x
      show J _ _ _ _ _ (_) (fun w1 => ((m 2 = true → Vec 23 16 v17 2 (fI [nI 1, nI 9]) l17) ∧ (m 10 = true → Vec 23 16 v25 2 (fI [nI 1, nI 9]) l25) ∧ (m 19 = true → Vec 23 16 v34 3 (fI [nI 1, nI 9, nI 12]) l34)) ∧ St w [] ((b2, cb (cI (nI 1)) 23) :: (b8, cb (fI L4) 23) :: ((bif m 2 then l17 else []) ++ (bif m 5 then [(b20, cb (fI [nI 1, nI 9]) 23)] else []) ++ (bif m 10 then l25 else []) ++ (bif m 13 then [(b28, cb (fI [nI 1, nI 9]) 23)] else []) ++ (bif m 19 then l34 else []) ++ (bif m 23 then [(b38, cb (fI [nI 1, nI 9, nI 12]) 23)] else []))) w1)
      refine J.pr (fun hF => ?_)
      refine J.move rfl rfl ?_
      exact J.nil (JX.finB rfl (fun w1 hw => ⟨⟨⟨v17, l17, b20, v25, l25, b28, v34, l34, b38⟩, rfl, fun _ _ _ => rfl, hF, hw⟩, trivial⟩))
    · skip
      obtain ⟨v17, l17, b20, v25, l25, b28, v34, l34, b38⟩ := x
      show J _ _ _ _ _ ((15, .agg (cI (nI 4)).toArray) :: (16, .slice (some ⟨b8, 0, none⟩) 4 4) :: (15, .agg (cI (nI 4)).toArray) :: _) (fun w1 => ((m 2 = true → Vec 23 16 v17 2 (fI [nI 1, nI 9]) l17) ∧ (m 10 = true → Vec 23 16 v25 2 (fI [nI 1, nI 9]) l25) ∧ (m 19 = true → Vec 23 16 v34 3 (fI [nI 1, nI 9, nI 12]) l34)) ∧ St w [] ((b2, cb (cI (nI 1)) 23) :: (b8, cb (fI L4) 23) :: ((bif m 2 then l17 else []) ++ (bif m 5 then [(b20, cb (fI [nI 1, nI 9]) 23)] else []) ++ (bif m 10 then l25 else []) ++ (bif m 13 then [(b28, cb (fI [nI 1, nI 9]) 23)] else []) ++ (bif m 19 then l34 else []) ++ (bif m 23 then [(b38, cb (fI [nI 1, nI 9, nI 12]) 23)] else []))) w1)
      refine J.pr (fun hF => ?_)
      refine J.perm ([] ++ ((b2, cb (cI (nI 1)) 23) :: (b8, cb (fI L4) 23) :: ((bif m 2 then l17 else []) ++ (bif m 5 then [(b20, cb (fI [nI 1, nI 9]) 23)] else []) ++ (bif m 10 then l25 else []) ++ (bif m 13 then [(b28, cb (fI [nI 1, nI 9]) 23)] else []) ++ (bif m 19 then l34 else []) ++ (bif m 23 then [(b38, cb (fI [nI 1, nI 9, nI 12]) 23)] else [])))) (.refl _) ?_
      refine J.callS (α := Value × List (Nat × Obj)) (V := (·.1)) (Pr := fun x => Vec 23 16 x.1 2 (fI [nI 1, nI 9]) x.2) (L := (·.2)) (l1 := []) Ty.bd16 rfl rfl (fun w1 hw => by
        have h := want_spec (nI 4) (.slice (some ⟨b8, 0, none⟩) 4 4) L4 1 w1 (Row.own (cs := fI L4) (tb := 23) (fr := (0, 0)) hw (.tail _ (.head _)) rfl (Nat.le_refl _)) (by decide)
        rw [want1] at h
        exact h) (fun x hvn => ?_)
      obtain ⟨vn, ln⟩ := x
      simp only at hvn ⊢
      refine J.nil (JX.finB rfl (fun w1 hw => ⟨⟨⟨vn, ln, b20, v25, l25, b28, v34, l34, b38⟩, rfl, fun j h1 h2 => ?_, ?_⟩, trivial⟩))
      · match j, h1 with
        | 0, _ => rfl
        | 1, _ => rfl
        | 2, _ => exact absurd (h2.symm.trans hm) (by decide)
        | 3, _ => rfl
        | 4, _ => rfl
        | 5, _ => rfl
        | 6, _ => rfl
        | 7, _ => rfl
        | 8, _ => rfl
        | 9, _ => rfl
        | 10, _ => rfl
        | 11, _ => rfl
        | 12, _ => rfl
        | 13, _ => rfl
        | 14, _ => rfl
        | 15, _ => rfl
        | 16, _ => rfl
        | 17, _ => rfl
        | 18, _ => rfl
        | 19, _ => rfl
        | 20, _ => rfl
        | 21, _ => rfl
        | 22, _ => rfl
        | 23, _ => rfl
        | 24, _ => rfl
        | 25, _ => rfl
        | 26, _ => rfl
        | 27, _ => rfl
        | 28, _ => rfl
        | 29, _ => rfl
        | 30, _ => rfl
        | 31, _ => rfl
        | 32, _ => rfl
        | 33, _ => rfl
        | 34, _ => rfl
        | 35, _ => rfl
        | 36, _ => rfl
        | 37, _ => rfl
        | 38, _ => rfl
        | 39, _ => rfl
        | 40, _ => rfl
        | 41, _ => rfl
        | 42, _ => rfl
        | 43, _ => rfl
        | 44, _ => rfl
        | j + 45, h1 => omega
      show ((true = true → Vec 23 16 vn 2 (fI [nI 1, nI 9]) ln) ∧ (m 10 = true → Vec 23 16 v25 2 (fI [nI 1, nI 9]) l25) ∧ (m 19 = true → Vec 23 16 v34 3 (fI [nI 1, nI 9, nI 12]) l34)) ∧ St w [] ((b2, cb (cI (nI 1)) 23) :: (b8, cb (fI L4) 23) :: ((bif true then ln else []) ++ (bif m 5 then [(b20, cb (fI [nI 1, nI 9]) 23)] else []) ++ (bif m 10 then l25 else []) ++ (bif m 13 then [(b28, cb (fI [nI 1, nI 9]) 23)] else []) ++ (bif m 19 then l34 else []) ++ (bif m 23 then [(b38, cb (fI [nI 1, nI 9, nI 12]) 23)] else []))) w1
      simp only [hm, cond_true, cond_false] at hw ⊢
      exact ⟨⟨fun _ => hvn, hF.2.1, hF.2.2⟩, hw.perm (by (refine perm_cnt (fun _ => ?_)); simp only [cntB_append, cntB_cons, cntB_nil, Nat.add_zero, Nat.zero_add]; try ac_rfl)⟩
    · skip
      obtain ⟨v17, l17, b20, v25, l25, b28, v34, l34, b38⟩ := x
      show J _ _ _ _ _ ((17, v17) :: _) (fun w1 => ((m 2 = true → Vec 23 16 v17 2 (fI [nI 1, nI 9]) l17) ∧ (m 10 = true → Vec 23 16 v25 2 (fI [nI 1, nI 9]) l25) ∧ (m 19 = true → Vec 23 16 v34 3 (fI [nI 1, nI 9, nI 12]) l34)) ∧ St w [] ((b2, cb (cI (nI 1)) 23) :: (b8, cb (fI L4) 23) :: ((bif m 2 then l17 else []) ++ (bif m 5 then [(b20, cb (fI [nI 1, nI 9]) 23)] else []) ++ (bif m 10 then l25 else []) ++ (bif m 13 then [(b28, cb (fI [nI 1, nI 9]) 23)] else []) ++ (bif m 19 then l34 else []) ++ (bif m 23 then [(b38, cb (fI [nI 1, nI 9, nI 12]) 23)] else []))) w1)
      have hp2 : m 2 = true := predsT hp (by kernel_rfl)
      refine J.pr (fun hF => ?_)
      refine J.callB (v := .agg (cI (nI 1)).toArray) (fun w1 w2 hw hb => hw.step hb) Ty.bd44 rfl rfl (fun w1 hw => n_spec 1 w1) ?_
      exact J.nil (JX.finB rfl (fun w1 hw => ⟨⟨⟨v17, l17, b20, v25, l25, b28, v34, l34, b38⟩, rfl, fun _ _ _ => rfl, hF, hw⟩, trivial⟩))
    · skip
      obtain ⟨v17, l17, b20, v25, l25, b28, v34, l34, b38⟩ := x
      show J _ _ _ _ _ ((18, .agg (cI (nI 1)).toArray) :: _) (fun w1 => ((m 2 = true → Vec 23 16 v17 2 (fI [nI 1, nI 9]) l17) ∧ (m 10 = true → Vec 23 16 v25 2 (fI [nI 1, nI 9]) l25) ∧ (m 19 = true → Vec 23 16 v34 3 (fI [nI 1, nI 9, nI 12]) l34)) ∧ St w [] ((b2, cb (cI (nI 1)) 23) :: (b8, cb (fI L4) 23) :: ((bif m 2 then l17 else []) ++ (bif m 5 then [(b20, cb (fI [nI 1, nI 9]) 23)] else []) ++ (bif m 10 then l25 else []) ++ (bif m 13 then [(b28, cb (fI [nI 1, nI 9]) 23)] else []) ++ (bif m 19 then l34 else []) ++ (bif m 23 then [(b38, cb (fI [nI 1, nI 9, nI 12]) 23)] else []))) w1)
      refine J.pr (fun hF => ?_)
      refine J.callB (v := .agg (cI (nI 9)).toArray) (fun w1 w2 hw hb => hw.step hb) Ty.bd44 rfl rfl (fun w1 hw => n_spec 9 w1) ?_
      exact J.nil (JX.finB rfl (fun w1 hw => ⟨⟨⟨v17, l17, b20, v25, l25, b28, v34, l34, b38⟩, rfl, fun _ _ _ => rfl, hF, hw⟩, trivial⟩))
    · skip
      obtain ⟨v17, l17, b20, v25, l25, b28, v34, l34, b38⟩ := x
      show J _ _ _ _ _ ((19, .agg (cI (nI 9)).toArray) :: (18, .agg (cI (nI 1)).toArray) :: _) (fun w1 => ((m 2 = true → Vec 23 16 v17 2 (fI [nI 1, nI 9]) l17) ∧ (m 10 = true → Vec 23 16 v25 2 (fI [nI 1, nI 9]) l25) ∧ (m 19 = true → Vec 23 16 v34 3 (fI [nI 1, nI 9, nI 12]) l34)) ∧ St w [] ((b2, cb (cI (nI 1)) 23) :: (b8, cb (fI L4) 23) :: ((bif m 2 then l17 else []) ++ (bif m 5 then [(b20, cb (fI [nI 1, nI 9]) 23)] else []) ++ (bif m 10 then l25 else []) ++ (bif m 13 then [(b28, cb (fI [nI 1, nI 9]) 23)] else []) ++ (bif m 19 then l34 else []) ++ (bif m 23 then [(b38, cb (fI [nI 1, nI 9, nI 12]) 23)] else []))) w1)
      refine J.pr (fun hF => ?_)
      refine J.buildSl (cs := fI [nI 1, nI 9]) Ty.el24 Ty.s23 Ty.zID rfl rfl rfl rfl (by kernel_rfl) rfl rfl (fun bn => ?_)
      refine J.nil (JX.finB rfl (fun w1 hw => ⟨⟨⟨v17, l17, bn, v25, l25, b28, v34, l34, b38⟩, rfl, fun j h1 h2 => ?_, ?_⟩, trivial⟩))
      · match j, h1 with
        | 0, _ => rfl
        | 1, _ => rfl
        | 2, _ => rfl
        | 3, _ => rfl
        | 4, _ => rfl
        | 5, _ => exact absurd (h2.symm.trans hm) (by decide)
        | 6, _ => rfl
        | 7, _ => rfl
        | 8, _ => rfl
        | 9, _ => rfl
        | 10, _ => rfl
        | 11, _ => rfl
        | 12, _ => rfl
        | 13, _ => rfl
        | 14, _ => rfl
        | 15, _ => rfl
        | 16, _ => rfl
        | 17, _ => rfl
        | 18, _ => rfl
        | 19, _ => rfl
        | 20, _ => rfl
        | 21, _ => rfl
        | 22, _ => rfl
        | 23, _ => rfl
        | 24, _ => rfl
        | 25, _ => rfl
        | 26, _ => rfl
        | 27, _ => rfl
        | 28, _ => rfl
        | 29, _ => rfl
        | 30, _ => rfl
        | 31, _ => rfl
        | 32, _ => rfl
        | 33, _ => rfl
        | 34, _ => rfl
        | 35, _ => rfl
        | 36, _ => rfl
        | 37, _ => rfl
        | 38, _ => rfl
        | 39, _ => rfl
        | 40, _ => rfl
        | 41, _ => rfl
        | 42, _ => rfl
        | 43, _ => rfl
        | 44, _ => rfl
        | j + 45, h1 => omega
      show ((m 2 = true → Vec 23 16 v17 2 (fI [nI 1, nI 9]) l17) ∧ (m 10 = true → Vec 23 16 v25 2 (fI [nI 1, nI 9]) l25) ∧ (m 19 = true → Vec 23 16 v34 3 (fI [nI 1, nI 9, nI 12]) l34)) ∧ St w [] ((b2, cb (cI (nI 1)) 23) :: (b8, cb (fI L4) 23) :: ((bif m 2 then l17 else []) ++ (bif true then [(bn, cb (fI [nI 1, nI 9]) 23)] else []) ++ (bif m 10 then l25 else []) ++ (bif m 13 then [(b28, cb (fI [nI 1, nI 9]) 23)] else []) ++ (bif m 19 then l34 else []) ++ (bif m 23 then [(b38, cb (fI [nI 1, nI 9, nI 12]) 23)] else []))) w1
      simp only [hm, cond_true, cond_false] at hw ⊢
      exact ⟨hF, hw.perm (by (refine perm_cnt (fun _ => ?_)); simp only [cntB_append, cntB_cons, cntB_nil, Nat.add_zero, Nat.zero_add]; try ac_rfl)⟩
    · skip
      obtain ⟨v17, l17, b20, v25, l25, b28, v34, l34, b38⟩ := x
      show J _ _ _ _ _ ((19, .agg (cI (nI 9)).toArray) :: (20, .slice (some ⟨b20, 0, none⟩) 2 2) :: (17, v17) :: _) (fun w1 => ((m 2 = true → Vec 23 16 v17 2 (fI [nI 1, nI 9]) l17) ∧ (m 10 = true → Vec 23 16 v25 2 (fI [nI 1, nI 9]) l25) ∧ (m 19 = true → Vec 23 16 v34 3 (fI [nI 1, nI 9, nI 12]) l34)) ∧ St w [] ((b2, cb (cI (nI 1)) 23) :: (b8, cb (fI L4) 23) :: ((bif m 2 then l17 else []) ++ (bif m 5 then [(b20, cb (fI [nI 1, nI 9]) 23)] else []) ++ (bif m 10 then l25 else []) ++ (bif m 13 then [(b28, cb (fI [nI 1, nI 9]) 23)] else []) ++ (bif m 19 then l34 else []) ++ (bif m 23 then [(b38, cb (fI [nI 1, nI 9, nI 12]) 23)] else []))) w1)
      have hp2 : m 2 = true := predsT hp (by kernel_rfl)
      have hp5 : m 5 = true := predsT hp (by kernel_rfl)
      refine J.pr (fun hF => ?_)
      refine J.callB (v := .bool true) (fun w1 w2 hw hb => hw.step hb) Ty.bd19 rfl rfl (fun w1 hw => by
        have hv := hF.1 hp2
        have h := sameIDs_spec v17 (.slice (some ⟨b20, 0, none⟩) 2 2) [nI 1, nI 9] [nI 1, nI 9] w1 (hv.rowM hw (fun q hq => by simp [hp2, hq])) (Row.own (cs := fI [nI 1, nI 9]) (tb := 23) (fr := (0, 0)) hw (by simp [hp5]) rfl (Nat.le_refl _)) (by decide) (by decide)
        simpa using h) ?_
      exact J.nil (JX.finB rfl (fun w1 hw => ⟨⟨⟨v17, l17, b20, v25, l25, b28, v34, l34, b38⟩, rfl, fun _ _ _ => rfl, hF, hw⟩, trivial⟩))
    · skip
      obtain ⟨v17, l17, b20, v25, l25, b28, v34, l34, b38⟩ := x
      show J _ _ _ _ _ ((21, .bool true) :: (21, .bool true) :: _) (fun w1 => ((m 2 = true → Vec 23 16 v17 2 (fI [nI 1, nI 9]) l17) ∧ (m 10 = true → Vec 23 16 v25 2 (fI [nI 1, nI 9]) l25) ∧ (m 19 = true → Vec 23 16 v34 3 (fI [nI 1, nI 9, nI 12]) l34)) ∧ St w [] ((b2, cb (cI (nI 1)) 23) :: (b8, cb (fI L4) 23) :: ((bif m 2 then l17 else []) ++ (bif m 5 then [(b20, cb (fI [nI 1, nI 9]) 23)] else []) ++ (bif m 10 then l25 else []) ++ (bif m 13 then [(b28, cb (fI [nI 1, nI 9]) 23)] else []) ++ (bif m 19 then l34 else []) ++ (bif m 23 then [(b38, cb (fI [nI 1, nI 9, nI 12]) 23)] else []))) w1)
      refine J.pr (fun hF => ?_)
      refine J.move rfl rfl ?_
      exact J.nil (JX.finB rfl (fun w1 hw => ⟨⟨⟨v17, l17, b20, v25, l25, b28, v34, l34, b38⟩, rfl, fun _ _ _ => rfl, hF, hw⟩, trivial⟩))
    · skip
      obtain ⟨v17, l17, b20, v25, l25, b28, v34, l34, b38⟩ := x
      show J _ _ _ _ _ ((22, .bool true) :: (22, .bool true) :: _) (fun w1 => ((m 2 = true → Vec 23 16 v17 2 (fI [nI 1, nI 9]) l17) ∧ (m 10 = true → Vec 23 16 v25 2 (fI [nI 1, nI 9]) l25) ∧ (m 19 = true → Vec 23 16 v34 3 (fI [nI 1, nI 9, nI 12]) l34)) ∧ St w [] ((b2, cb (cI (nI 1)) 23) :: (b8, cb (fI L4) 23) :: ((bif m 2 then l17 else []) ++ (bif m 5 then [(b20, cb (fI [nI 1, nI 9]) 23)] else []) ++ (bif m 10 then l25 else []) ++ (bif m 13 then [(b28, cb (fI [nI 1, nI 9]) 23)] else []) ++ (bif m 19 then l34 else []) ++ (bif m 23 then [(b38, cb (fI [nI 1, nI 9, nI 12]) 23)] else []))) w1)
      refine J.pr (fun hF => ?_)
      refine J.unguard rfl rfl rfl ?_
      refine J.callB (v := .agg (cI (nI 12)).toArray) (fun w1 w2 hw hb => hw.step hb) Ty.bd44 rfl rfl (fun w1 hw => n_spec 12 w1) ?_
      exact J.nil (JX.finB rfl (fun w1 hw => ⟨⟨⟨v17, l17, b20, v25, l25, b28, v34, l34, b38⟩, rfl, fun _ _ _ => rfl, hF, hw⟩, trivial⟩))
    · skip
      obtain ⟨v17, l17, b20, v25, l25, b28, v34, l34, b38⟩ := x
      show J _ _ _ _ _ ((22, .bool true) :: _) (fun w1 => ((m 2 = true → Vec 23 16 v17 2 (fI [nI 1, nI 9]) l17) ∧ (m 10 = true → Vec 23 16 v25 2 (fI [nI 1, nI 9]) l25) ∧ (m 19 = true → Vec 23 16 v34 3 (fI [nI 1, nI 9, nI 12]) l34)) ∧ St w [] ((b2, cb (cI (nI 1)) 23) :: (b8, cb (fI L4) 23) :: ((bif m 2 then l17 else []) ++ (bif m 5 then [(b20, cb (fI [nI 1, nI 9]) 23)] else []) ++ (bif m 10 then l25 else []) ++ (bif m 13 then [(b28, cb (fI [nI 1, nI 9]) 23)] else []) ++ (bif m 19 then l34 else []) ++ (bif m 23 then [(b38, cb (fI [nI 1, nI 9, nI 12]) 23)] else []))) w1)
      refine J.pr (fun hF => ?_)
      first
        | (refine J.skip rfl rfl rfl rfl rfl ?_)
        | (refine J.skipU rfl rfl rfl rfl ?_)
        | (refine J.unguard rfl rfl rfl ?_; refine J.move rfl rfl ?_)
      exact J.nil (JX.finB rfl (fun w1 hw => ⟨⟨⟨v17, l17, b20, v25, l25, b28, v34, l34, b38⟩, rfl, fun _ _ _ => rfl, hF, hw⟩, trivial⟩))
    · skip
      obtain ⟨v17, l17, b20, v25, l25, b28, v34, l34, b38⟩ := x
      show J _ _ _ _ _ ((22, .bool true) :: (23, .agg (cI (nI 12)).toArray) :: (24, .slice (some ⟨b8, 0, none⟩) 4 4) :: (23, .agg (cI (nI 12)).toArray) :: _) (fun w1 => ((m 2 = true → Vec 23 16 v17 2 (fI [nI 1, nI 9]) l17) ∧ (m 10 = true → Vec 23 16 v25 2 (fI [nI 1, nI 9]) l25) ∧ (m 19 = true → Vec 23 16 v34 3 (fI [nI 1, nI 9, nI 12]) l34)) ∧ St w [] ((b2, cb (cI (nI 1)) 23) :: (b8, cb (fI L4) 23) :: ((bif m 2 then l17 else []) ++ (bif m 5 then [(b20, cb (fI [nI 1, nI 9]) 23)] else []) ++ (bif m 10 then l25 else []) ++ (bif m 13 then [(b28, cb (fI [nI 1, nI 9]) 23)] else []) ++ (bif m 19 then l34 else []) ++ (bif m 23 then [(b38, cb (fI [nI 1, nI 9, nI 12]) 23)] else []))) w1)
      refine J.pr (fun hF => ?_)
      refine J.unguard rfl rfl rfl ?_
      refine J.perm ([] ++ ((b2, cb (cI (nI 1)) 23) :: (b8, cb (fI L4) 23) :: ((bif m 2 then l17 else []) ++ (bif m 5 then [(b20, cb (fI [nI 1, nI 9]) 23)] else []) ++ (bif m 10 then l25 else []) ++ (bif m 13 then [(b28, cb (fI [nI 1, nI 9]) 23)] else []) ++ (bif m 19 then l34 else []) ++ (bif m 23 then [(b38, cb (fI [nI 1, nI 9, nI 12]) 23)] else [])))) (.refl _) ?_
      refine J.callS (α := Value × List (Nat × Obj)) (V := (·.1)) (Pr := fun x => Vec 23 16 x.1 2 (fI [nI 1, nI 9]) x.2) (L := (·.2)) (l1 := []) Ty.bd16 rfl rfl (fun w1 hw => by
        have h := want_spec (nI 12) (.slice (some ⟨b8, 0, none⟩) 4 4) L4 1 w1 (Row.own (cs := fI L4) (tb := 23) (fr := (0, 0)) hw (.tail _ (.head _)) rfl (Nat.le_refl _)) (by decide)
        rw [want2] at h
        exact h) (fun x hvn => ?_)
      obtain ⟨vn, ln⟩ := x
      simp only at hvn ⊢
      refine J.nil (JX.finB rfl (fun w1 hw => ⟨⟨⟨v17, l17, b20, vn, ln, b28, v34, l34, b38⟩, rfl, fun j h1 h2 => ?_, ?_⟩, trivial⟩))
      · match j, h1 with
        | 0, _ => rfl
        | 1, _ => rfl
        | 2, _ => rfl
        | 3, _ => rfl
        | 4, _ => rfl
        | 5, _ => rfl
        | 6, _ => rfl
        | 7, _ => rfl
        | 8, _ => rfl
        | 9, _ => rfl
        | 10, _ => exact absurd (h2.symm.trans hm) (by decide)
        | 11, _ => rfl
        | 12, _ => rfl
        | 13, _ => rfl
        | 14, _ => rfl
        | 15, _ => rfl
        | 16, _ => rfl
        | 17, _ => rfl
        | 18, _ => rfl
        | 19, _ => rfl
        | 20, _ => rfl
        | 21, _ => rfl
        | 22, _ => rfl
        | 23, _ => rfl
        | 24, _ => rfl
        | 25, _ => rfl
        | 26, _ => rfl
        | 27, _ => rfl
        | 28, _ => rfl
        | 29, _ => rfl
        | 30, _ => rfl
        | 31, _ => rfl
        | 32, _ => rfl
        | 33, _ => rfl
        | 34, _ => rfl
        | 35, _ => rfl
        | 36, _ => rfl
        | 37, _ => rfl
        | 38, _ => rfl
        | 39, _ => rfl
        | 40, _ => rfl
        | 41, _ => rfl
        | 42, _ => rfl
        | 43, _ => rfl
        | 44, _ => rfl
        | j + 45, h1 => omega
      show ((m 2 = true → Vec 23 16 v17 2 (fI [nI 1, nI 9]) l17) ∧ (true = true → Vec 23 16 vn 2 (fI [nI 1, nI 9]) ln) ∧ (m 19 = true → Vec 23 16 v34 3 (fI [nI 1, nI 9, nI 12]) l34)) ∧ St w [] ((b2, cb (cI (nI 1)) 23) :: (b8, cb (fI L4) 23) :: ((bif m 2 then l17 else []) ++ (bif m 5 then [(b20, cb (fI [nI 1, nI 9]) 23)] else []) ++ (bif true then ln else []) ++ (bif m 13 then [(b28, cb (fI [nI 1, nI 9]) 23)] else []) ++ (bif m 19 then l34 else []) ++ (bif m 23 then [(b38, cb (fI [nI 1, nI 9, nI 12]) 23)] else []))) w1
      simp only [hm, cond_true, cond_false] at hw ⊢
      exact ⟨⟨hF.1, fun _ => hvn, hF.2.2⟩, hw.perm (by (refine perm_cnt (fun _ => ?_)); simp only [cntB_append, cntB_cons, cntB_nil, Nat.add_zero, Nat.zero_add]; try ac_rfl)⟩
    · skip
      obtain ⟨v17, l17, b20, v25, l25, b28, v34, l34, b38⟩ := x
      show J _ _ _ _ _ ((22, .bool true) :: (25, v25) :: _) (fun w1 => ((m 2 = true → Vec 23 16 v17 2 (fI [nI 1, nI 9]) l17) ∧ (m 10 = true → Vec 23 16 v25 2 (fI [nI 1, nI 9]) l25) ∧ (m 19 = true → Vec 23 16 v34 3 (fI [nI 1, nI 9, nI 12]) l34)) ∧ St w [] ((b2, cb (cI (nI 1)) 23) :: (b8, cb (fI L4) 23) :: ((bif m 2 then l17 else []) ++ (bif m 5 then [(b20, cb (fI [nI 1, nI 9]) 23)] else []) ++ (bif m 10 then l25 else []) ++ (bif m 13 then [(b28, cb (fI [nI 1, nI 9]) 23)] else []) ++ (bif m 19 then l34 else []) ++ (bif m 23 then [(b38, cb (fI [nI 1, nI 9, nI 12]) 23)] else []))) w1)
      have hp10 : m 10 = true := predsT hp (by kernel_rfl)
      refine J.pr (fun hF => ?_)
      refine J.unguard rfl rfl rfl ?_
      refine J.callB (v := .agg (cI (nI 1)).toArray) (fun w1 w2 hw hb => hw.step hb) Ty.bd44 rfl rfl (fun w1 hw => n_spec 1 w1) ?_
      exact J.nil (JX.finB rfl (fun w1 hw => ⟨⟨⟨v17, l17, b20, v25, l25, b28, v34, l34, b38⟩, rfl, fun _ _ _ => rfl, hF, hw⟩, trivial⟩))
    · skip
      obtain ⟨v17, l17, b20, v25, l25, b28, v34, l34, b38⟩ := x
      show J _ _ _ _ _ ((22, .bool true) :: (26, .agg (cI (nI 1)).toArray) :: _) (fun w1 => ((m 2 = true → Vec 23 16 v17 2 (fI [nI 1, nI 9]) l17) ∧ (m 10 = true → Vec 23 16 v25 2 (fI [nI 1, nI 9]) l25) ∧ (m 19 = true → Vec 23 16 v34 3 (fI [nI 1, nI 9, nI 12]) l34)) ∧ St w [] ((b2, cb (cI (nI 1)) 23) :: (b8, cb (fI L4) 23) :: ((bif m 2 then l17 else []) ++ (bif m 5 then [(b20, cb (fI [nI 1, nI 9]) 23)] else []) ++ (bif m 10 then l25 else []) ++ (bif m 13 then [(b28, cb (fI [nI 1, nI 9]) 23)] else []) ++ (bif m 19 then l34 else []) ++ (bif m 23 then [(b38, cb (fI [nI 1, nI 9, nI 12]) 23)] else []))) w1)
      refine J.pr (fun hF => ?_)
      refine J.unguard rfl rfl rfl ?_
      refine J.callB (v := .agg (cI (nI 9)).toArray) (fun w1 w2 hw hb => hw.step hb) Ty.bd44 rfl rfl (fun w1 hw => n_spec 9 w1) ?_
      exact J.nil (JX.finB rfl (fun w1 hw => ⟨⟨⟨v17, l17, b20, v25, l25, b28, v34, l34, b38⟩, rfl, fun _ _ _ => rfl, hF, hw⟩, trivial⟩))
    · skip
      obtain ⟨v17, l17, b20, v25, l25, b28, v34, l34, b38⟩ := x
      show J _ _ _ _ _ ((22, .bool true) :: (27, .agg (cI (nI 9)).toArray) :: (26, .agg (cI (nI 1)).toArray) :: _) (fun w1 => ((m 2 = true → Vec 23 16 v17 2 (fI [nI 1, nI 9]) l17) ∧ (m 10 = true → Vec 23 16 v25 2 (fI [nI 1, nI 9]) l25) ∧ (m 19 = true → Vec 23 16 v34 3 (fI [nI 1, nI 9, nI 12]) l34)) ∧ St w [] ((b2, cb (cI (nI 1)) 23) :: (b8, cb (fI L4) 23) :: ((bif m 2 then l17 else []) ++ (bif m 5 then [(b20, cb (fI [nI 1, nI 9]) 23)] else []) ++ (bif m 10 then l25 else []) ++ (bif m 13 then [(b28, cb (fI [nI 1, nI 9]) 23)] else []) ++ (bif m 19 then l34 else []) ++ (bif m 23 then [(b38, cb (fI [nI 1, nI 9, nI 12]) 23)] else []))) w1)
      refine J.pr (fun hF => ?_)
      refine J.unguard rfl rfl rfl ?_
      refine J.buildSl (cs := fI [nI 1, nI 9]) Ty.el24 Ty.s23 Ty.zID rfl rfl rfl rfl (by kernel_rfl) rfl rfl (fun bn => ?_)
      refine J.nil (JX.finB rfl (fun w1 hw => ⟨⟨⟨v17, l17, b20, v25, l25, bn, v34, l34, b38⟩, rfl, fun j h1 h2 => ?_, ?_⟩, trivial⟩))
      · match j, h1 with
        | 0, _ => rfl
        | 1, _ => rfl
        | 2, _ => rfl
        | 3, _ => rfl
        | 4, _ => rfl
        | 5, _ => rfl
        | 6, _ => rfl
        | 7, _ => rfl
        | 8, _ => rfl
        | 9, _ => rfl
        | 10, _ => rfl
        | 11, _ => rfl
        | 12, _ => rfl
        | 13, _ => exact absurd (h2.symm.trans hm) (by decide)
        | 14, _ => rfl
        | 15, _ => rfl
        | 16, _ => rfl
        | 17, _ => rfl
        | 18, _ => rfl
        | 19, _ => rfl
        | 20, _ => rfl
        | 21, _ => rfl
        | 22, _ => rfl
        | 23, _ => rfl
        | 24, _ => rfl
        | 25, _ => rfl
        | 26, _ => rfl
        | 27, _ => rfl
        | 28, _ => rfl
        | 29, _ => rfl
        | 30, _ => rfl
        | 31, _ => rfl
        | 32, _ => rfl
        | 33, _ => rfl
        | 34, _ => rfl
        | 35, _ => rfl
        | 36, _ => rfl
        | 37, _ => rfl
        | 38, _ => rfl
        | 39, _ => rfl
        | 40, _ => rfl
        | 41, _ => rfl
        | 42, _ => rfl
        | 43, _ => rfl
        | 44, _ => rfl
        | j + 45, h1 => omega
      show ((m 2 = true → Vec 23 16 v17 2 (fI [nI 1, nI 9]) l17) ∧ (m 10 = true → Vec 23 16 v25 2 (fI [nI 1, nI 9]) l25) ∧ (m 19 = true → Vec 23 16 v34 3 (fI [nI 1, nI 9, nI 12]) l34)) ∧ St w [] ((b2, cb (cI (nI 1)) 23) :: (b8, cb (fI L4) 23) :: ((bif m 2 then l17 else []) ++ (bif m 5 then [(b20, cb (fI [nI 1, nI 9]) 23)] else []) ++ (bif m 10 then l25 else []) ++ (bif true then [(bn, cb (fI [nI 1, nI 9]) 23)] else []) ++ (bif m 19 then l34 else []) ++ (bif m 23 then [(b38, cb (fI [nI 1, nI 9, nI 12]) 23)] else []))) w1
      simp only [hm, cond_true, cond_false] at hw ⊢
      exact ⟨hF, hw.perm (by (refine perm_cnt (fun _ => ?_)); simp only [cntB_append, cntB_cons, cntB_nil, Nat.add_zero, Nat.zero_add]; try ac_rfl)⟩
    · skip
      obtain ⟨v17, l17, b20, v25, l25, b28, v34, l34, b38⟩ := x
      show J _ _ _ _ _ ((22, .bool true) :: (27, .agg (cI (nI 9)).toArray) :: (28, .slice (some ⟨b28, 0, none⟩) 2 2) :: (25, v25) :: _) (fun w1 => ((m 2 = true → Vec 23 16 v17 2 (fI [nI 1, nI 9]) l17) ∧ (m 10 = true → Vec 23 16 v25 2 (fI [nI 1, nI 9]) l25) ∧ (m 19 = true → Vec 23 16 v34 3 (fI [nI 1, nI 9, nI 12]) l34)) ∧ St w [] ((b2, cb (cI (nI 1)) 23) :: (b8, cb (fI L4) 23) :: ((bif m 2 then l17 else []) ++ (bif m 5 then [(b20, cb (fI [nI 1, nI 9]) 23)] else []) ++ (bif m 10 then l25 else []) ++ (bif m 13 then [(b28, cb (fI [nI 1, nI 9]) 23)] else []) ++ (bif m 19 then l34 else []) ++ (bif m 23 then [(b38, cb (fI [nI 1, nI 9, nI 12]) 23)] else []))) w1)
      have hp10 : m 10 = true := predsT hp (by kernel_rfl)
      have hp13 : m 13 = true := predsT hp (by kernel_rfl)
      refine J.pr (fun hF => ?_)
      refine J.unguard rfl rfl rfl ?_
      refine J.callB (v := .bool true) (fun w1 w2 hw hb => hw.step hb) Ty.bd19 rfl rfl (fun w1 hw => by
        have hv := hF.2.1 hp10
        have h := sameIDs_spec v25 (.slice (some ⟨b28, 0, none⟩) 2 2) [nI 1, nI 9] [nI 1, nI 9] w1 (hv.rowM hw (fun q hq => by simp [hp10, hq])) (Row.own (cs := fI [nI 1, nI 9]) (tb := 23) (fr := (0, 0)) hw (by simp [hp13]) rfl (Nat.le_refl _)) (by decide) (by decide)
        simpa using h) ?_
      exact J.nil (JX.finB rfl (fun w1 hw => ⟨⟨⟨v17, l17, b20, v25, l25, b28, v34, l34, b38⟩, rfl, fun _ _ _ => rfl, hF, hw⟩, trivial⟩))
    · skip
      obtain ⟨v17, l17, b20, v25, l25, b28, v34, l34, b38⟩ := x
      show J _ _ _ _ _ ((29, .bool true) :: (22, .bool true) :: _) (fun w1 => ((m 2 = true → Vec 23 16 v17 2 (fI [nI 1, nI 9]) l17) ∧ (m 10 = true → Vec 23 16 v25 2 (fI [nI 1, nI 9]) l25) ∧ (m 19 = true → Vec 23 16 v34 3 (fI [nI 1, nI 9, nI 12]) l34)) ∧ St w [] ((b2, cb (cI (nI 1)) 23) :: (b8, cb (fI L4) 23) :: ((bif m 2 then l17 else []) ++ (bif m 5 then [(b20, cb (fI [nI 1, nI 9]) 23)] else []) ++ (bif m 10 then l25 else []) ++ (bif m 13 then [(b28, cb (fI [nI 1, nI 9]) 23)] else []) ++ (bif m 19 then l34 else []) ++ (bif m 23 then [(b38, cb (fI [nI 1, nI 9, nI 12]) 23)] else []))) w1)
      refine J.pr (fun hF => ?_)
      (first | refine J.pickT rfl rfl rfl ?_ | refine J.pickF rfl rfl rfl ?_)
      exact J.nil (JX.finB rfl (fun w1 hw => ⟨⟨⟨v17, l17, b20, v25, l25, b28, v34, l34, b38⟩, rfl, fun _ _ _ => rfl, hF, hw⟩, trivial⟩))
    · skip
      obtain ⟨v17, l17, b20, v25, l25, b28, v34, l34, b38⟩ := x
      show J _ _ _ _ _ ((29, .bool true) :: (30, .bool true) :: _) (fun w1 => ((m 2 = true → Vec 23 16 v17 2 (fI [nI 1, nI 9]) l17) ∧ (m 10 = true → Vec 23 16 v25 2 (fI [nI 1, nI 9]) l25) ∧ (m 19 = true → Vec 23 16 v34 3 (fI [nI 1, nI 9, nI 12]) l34)) ∧ St w [] ((b2, cb (cI (nI 1)) 23) :: (b8, cb (fI L4) 23) :: ((bif m 2 then l17 else []) ++ (bif m 5 then [(b20, cb (fI [nI 1, nI 9]) 23)] else []) ++ (bif m 10 then l25 else []) ++ (bif m 13 then [(b28, cb (fI [nI 1, nI 9]) 23)] else []) ++ (bif m 19 then l34 else []) ++ (bif m 23 then [(b38, cb (fI [nI 1, nI 9, nI 12]) 23)] else []))) w1)
      refine J.pr (fun hF => ?_)
      refine J.move rfl rfl ?_
      exact J.nil (JX.finB rfl (fun w1 hw => ⟨⟨⟨v17, l17, b20, v25, l25, b28, v34, l34, b38⟩, rfl, fun _ _ _ => rfl, hF, hw⟩, trivial⟩))
    · skip
      obtain ⟨v17, l17, b20, v25, l25, b28, v34, l34, b38⟩ := x
      show J _ _ _ _ _ ((31, .bool true) :: (31, .bool true) :: _) (fun w1 => ((m 2 = true → Vec 23 16 v17 2 (fI [nI 1, nI 9]) l17) ∧ (m 10 = true → Vec 23 16 v25 2 (fI [nI 1, nI 9]) l25) ∧ (m 19 = true → Vec 23 16 v34 3 (fI [nI 1, nI 9, nI 12]) l34)) ∧ St w [] ((b2, cb (cI (nI 1)) 23) :: (b8, cb (fI L4) 23) :: ((bif m 2 then l17 else []) ++ (bif m 5 then [(b20, cb (fI [nI 1, nI 9]) 23)] else []) ++ (bif m 10 then l25 else []) ++ (bif m 13 then [(b28, cb (fI [nI 1, nI 9]) 23)] else []) ++ (bif m 19 then l34 else []) ++ (bif m 23 then [(b38, cb (fI [nI 1, nI 9, nI 12]) 23)] else []))) w1)
      refine J.pr (fun hF => ?_)
      refine J.unguard rfl rfl rfl ?_
      refine J.callB (v := .agg (cI (nI 4)).toArray) (fun w1 w2 hw hb => hw.step hb) Ty.bd44 rfl rfl (fun w1 hw => n_spec 4 w1) ?_
      exact J.nil (JX.finB rfl (fun w1 hw => ⟨⟨⟨v17, l17, b20, v25, l25, b28, v34, l34, b38⟩, rfl, fun _ _ _ => rfl, hF, hw⟩, trivial⟩))
    · skip
      obtain ⟨v17, l17, b20, v25, l25, b28, v34, l34, b38⟩ := x
      show J _ _ _ _ _ ((31, .bool true) :: _) (fun w1 => ((m 2 = true → Vec 23 16 v17 2 (fI [nI 1, nI 9]) l17) ∧ (m 10 = true → Vec 23 16 v25 2 (fI [nI 1, nI 9]) l25) ∧ (m 19 = true → Vec 23 16 v34 3 (fI [nI 1, nI 9, nI 12]) l34)) ∧ St w [] ((b2, cb (cI (nI 1)) 23) :: (b8, cb (fI L4) 23) :: ((bif m 2 then l17 else []) ++ (bif m 5 then [(b20, cb (fI [nI 1, nI 9]) 23)] else []) ++ (bif m 10 then l25 else []) ++ (bif m 13 then [(b28, cb (fI [nI 1, nI 9]) 23)] else []) ++ (bif m 19 then l34 else []) ++ (bif m 23 then [(b38, cb (fI [nI 1, nI 9, nI 12]) 23)] else []))) w1)
      refine J.pr (fun hF => ?_)
      first
        | (refine J.skip rfl rfl rfl rfl rfl ?_)
        | (refine J.skipU rfl rfl rfl rfl ?_)
        | (refine J.unguard rfl rfl rfl ?_; refine J.move rfl rfl ?_)
      exact J.nil (JX.finB rfl (fun w1 hw => ⟨⟨⟨v17, l17, b20, v25, l25, b28, v34, l34, b38⟩, rfl, fun _ _ _ => rfl, hF, hw⟩, trivial⟩))
    · skip
      obtain ⟨v17, l17, b20, v25, l25, b28, v34, l34, b38⟩ := x
      show J _ _ _ _ _ ((31, .bool true) :: (32, .agg (cI (nI 4)).toArray) :: (33, .slice (some ⟨b8, 0, none⟩) 4 4) :: (32, .agg (cI (nI 4)).toArray) :: _) (fun w1 => ((m 2 = true → Vec 23 16 v17 2 (fI [nI 1, nI 9]) l17) ∧ (m 10 = true → Vec 23 16 v25 2 (fI [nI 1, nI 9]) l25) ∧ (m 19 = true → Vec 23 16 v34 3 (fI [nI 1, nI 9, nI 12]) l34)) ∧ St w [] ((b2, cb (cI (nI 1)) 23) :: (b8, cb (fI L4) 23) :: ((bif m 2 then l17 else []) ++ (bif m 5 then [(b20, cb (fI [nI 1, nI 9]) 23)] else []) ++ (bif m 10 then l25 else []) ++ (bif m 13 then [(b28, cb (fI [nI 1, nI 9]) 23)] else []) ++ (bif m 19 then l34 else []) ++ (bif m 23 then [(b38, cb (fI [nI 1, nI 9, nI 12]) 23)] else []))) w1)
      refine J.pr (fun hF => ?_)
      refine J.unguard rfl rfl rfl ?_
      refine J.perm ([] ++ ((b2, cb (cI (nI 1)) 23) :: (b8, cb (fI L4) 23) :: ((bif m 2 then l17 else []) ++ (bif m 5 then [(b20, cb (fI [nI 1, nI 9]) 23)] else []) ++ (bif m 10 then l25 else []) ++ (bif m 13 then [(b28, cb (fI [nI 1, nI 9]) 23)] else []) ++ (bif m 19 then l34 else []) ++ (bif m 23 then [(b38, cb (fI [nI 1, nI 9, nI 12]) 23)] else [])))) (.refl _) ?_
      refine J.callS (α := Value × List (Nat × Obj)) (V := (·.1)) (Pr := fun x => Vec 23 16 x.1 3 (fI [nI 1, nI 9, nI 12]) x.2) (L := (·.2)) (l1 := []) Ty.bd16 rfl rfl (fun w1 hw => by
        have h := want_spec (nI 4) (.slice (some ⟨b8, 0, none⟩) 4 4) L4 2 w1 (Row.own (cs := fI L4) (tb := 23) (fr := (0, 0)) hw (.tail _ (.head _)) rfl (Nat.le_refl _)) (by decide)
        rw [want3] at h
        exact h) (fun x hvn => ?_)
      obtain ⟨vn, ln⟩ := x
      simp only at hvn ⊢
      refine J.nil (JX.finB rfl (fun w1 hw => ⟨⟨⟨v17, l17, b20, v25, l25, b28, vn, ln, b38⟩, rfl, fun j h1 h2 => ?_, ?_⟩, trivial⟩))
      · match j, h1 with
        | 0, _ => rfl
        | 1, _ => rfl
        | 2, _ => rfl
        | 3, _ => rfl
        | 4, _ => rfl
        | 5, _ => rfl
        | 6, _ => rfl
        | 7, _ => rfl
        | 8, _ => rfl
        | 9, _ => rfl
        | 10, _ => rfl
        | 11, _ => rfl
        | 12, _ => rfl
        | 13, _ => rfl
        | 14, _ => rfl
        | 15, _ => rfl
        | 16, _ => rfl
        | 17, _ => rfl
        | 18, _ => rfl
        | 19, _ => exact absurd (h2.symm.trans hm) (by decide)
        | 20, _ => rfl
        | 21, _ => rfl
        | 22, _ => rfl
        | 23, _ => rfl
        | 24, _ => rfl
        | 25, _ => rfl
        | 26, _ => rfl
        | 27, _ => rfl
        | 28, _ => rfl
        | 29, _ => rfl
        | 30, _ => rfl
        | 31, _ => rfl
        | 32, _ => rfl
        | 33, _ => rfl
        | 34, _ => rfl
        | 35, _ => rfl
        | 36, _ => rfl
        | 37, _ => rfl
        | 38, _ => rfl
        | 39, _ => rfl
        | 40, _ => rfl
        | 41, _ => rfl
        | 42, _ => rfl
        | 43, _ => rfl
        | 44, _ => rfl
        | j + 45, h1 => omega
      show ((m 2 = true → Vec 23 16 v17 2 (fI [nI 1, nI 9]) l17) ∧ (m 10 = true → Vec 23 16 v25 2 (fI [nI 1, nI 9]) l25) ∧ (true = true → Vec 23 16 vn 3 (fI [nI 1, nI 9, nI 12]) ln)) ∧ St w [] ((b2, cb (cI (nI 1)) 23) :: (b8, cb (fI L4) 23) :: ((bif m 2 then l17 else []) ++ (bif m 5 then [(b20, cb (fI [nI 1, nI 9]) 23)] else []) ++ (bif m 10 then l25 else []) ++ (bif m 13 then [(b28, cb (fI [nI 1, nI 9]) 23)] else []) ++ (bif true then ln else []) ++ (bif m 23 then [(b38, cb (fI [nI 1, nI 9, nI 12]) 23)] else []))) w1
      simp only [hm, cond_true, cond_false] at hw ⊢
      exact ⟨⟨hF.1, hF.2.1, fun _ => hvn⟩, hw.perm (by (refine perm_cnt (fun _ => ?_)); simp only [cntB_append, cntB_cons, cntB_nil, Nat.add_zero, Nat.zero_add]; try ac_rfl)⟩
    · skip
      obtain ⟨v17, l17, b20, v25, l25, b28, v34, l34, b38⟩ := x
      show J _ _ _ _ _ ((31, .bool true) :: (34, v34) :: _) (fun w1 => ((m 2 = true → Vec 23 16 v17 2 (fI [nI 1, nI 9]) l17) ∧ (m 10 = true → Vec 23 16 v25 2 (fI [nI 1, nI 9]) l25) ∧ (m 19 = true → Vec 23 16 v34 3 (fI [nI 1, nI 9, nI 12]) l34)) ∧ St w [] ((b2, cb (cI (nI 1)) 23) :: (b8, cb (fI L4) 23) :: ((bif m 2 then l17 else []) ++ (bif m 5 then [(b20, cb (fI [nI 1, nI 9]) 23)] else []) ++ (bif m 10 then l25 else []) ++ (bif m 13 then [(b28, cb (fI [nI 1, nI 9]) 23)] else []) ++ (bif m 19 then l34 else []) ++ (bif m 23 then [(b38, cb (fI [nI 1, nI 9, nI 12]) 23)] else []))) w1)
      have hp19 : m 19 = true := predsT hp (by kernel_rfl)
      refine J.pr (fun hF => ?_)
      refine J.unguard rfl rfl rfl ?_
      refine J.callB (v := .agg (cI (nI 1)).toArray) (fun w1 w2 hw hb => hw.step hb) Ty.bd44 rfl rfl (fun w1 hw => n_spec 1 w1) ?_
      exact J.nil (JX.finB rfl (fun w1 hw => ⟨⟨⟨v17, l17, b20, v25, l25, b28, v34, l34, b38⟩, rfl, fun _ _ _ => rfl, hF, hw⟩, trivial⟩))
    · skip
      obtain ⟨v17, l17, b20, v25, l25, b28, v34, l34, b38⟩ := x
      show J _ _ _ _ _ ((31, .bool true) :: (35, .agg (cI (nI 1)).toArray) :: _) (fun w1 => ((m 2 = true → Vec 23 16 v17 2 (fI [nI 1, nI 9]) l17) ∧ (m 10 = true → Vec 23 16 v25 2 (fI [nI 1, nI 9]) l25) ∧ (m 19 = true → Vec 23 16 v34 3 (fI [nI 1, nI 9, nI 12]) l34)) ∧ St w [] ((b2, cb (cI (nI 1)) 23) :: (b8, cb (fI L4) 23) :: ((bif m 2 then l17 else []) ++ (bif m 5 then [(b20, cb (fI [nI 1, nI 9]) 23)] else []) ++ (bif m 10 then l25 else []) ++ (bif m 13 then [(b28, cb (fI [nI 1, nI 9]) 23)] else []) ++ (bif m 19 then l34 else []) ++ (bif m 23 then [(b38, cb (fI [nI 1, nI 9, nI 12]) 23)] else []))) w1)
      refine J.pr (fun hF => ?_)
      refine J.unguard rfl rfl rfl ?_
      refine J.callB (v := .agg (cI (nI 9)).toArray) (fun w1 w2 hw hb => hw.step hb) Ty.bd44 rfl rfl (fun w1 hw => n_spec 9 w1) ?_
      exact J.nil (JX.finB rfl (fun w1 hw => ⟨⟨⟨v17, l17, b20, v25, l25, b28, v34, l34, b38⟩, rfl, fun _ _ _ => rfl, hF, hw⟩, trivial⟩))
    · skip
      obtain ⟨v17, l17, b20, v25, l25, b28, v34, l34, b38⟩ := x
      show J _ _ _ _ _ ((31, .bool true) :: (36, .agg (cI (nI 9)).toArray) :: _) (fun w1 => ((m 2 = true → Vec 23 16 v17 2 (fI [nI 1, nI 9]) l17) ∧ (m 10 = true → Vec 23 16 v25 2 (fI [nI 1, nI 9]) l25) ∧ (m 19 = true → Vec 23 16 v34 3 (fI [nI 1, nI 9, nI 12]) l34)) ∧ St w [] ((b2, cb (cI (nI 1)) 23) :: (b8, cb (fI L4) 23) :: ((bif m 2 then l17 else []) ++ (bif m 5 then [(b20, cb (fI [nI 1, nI 9]) 23)] else []) ++ (bif m 10 then l25 else []) ++ (bif m 13 then [(b28, cb (fI [nI 1, nI 9]) 23)] else []) ++ (bif m 19 then l34 else []) ++ (bif m 23 then [(b38, cb (fI [nI 1, nI 9, nI 12]) 23)] else []))) w1)
      refine J.pr (fun hF => ?_)
      refine J.unguard rfl rfl rfl ?_
      refine J.callB (v := .agg (cI (nI 12)).toArray) (fun w1 w2 hw hb => hw.step hb) Ty.bd44 rfl rfl (fun w1 hw => n_spec 12 w1) ?_
      exact J.nil (JX.finB rfl (fun w1 hw => ⟨⟨⟨v17, l17, b20, v25, l25, b28, v34, l34, b38⟩, rfl, fun _ _ _ => rfl, hF, hw⟩, trivial⟩))
    · skip
      obtain ⟨v17, l17, b20, v25, l25, b28, v34, l34, b38⟩ := x
      show J _ _ _ _ _ ((31, .bool true) :: (37, .agg (cI (nI 12)).toArray) :: (36, .agg (cI (nI 9)).toArray) :: (35, .agg (cI (nI 1)).toArray) :: _) (fun w1 => ((m 2 = true → Vec 23 16 v17 2 (fI [nI 1, nI 9]) l17) ∧ (m 10 = true → Vec 23 16 v25 2 (fI [nI 1, nI 9]) l25) ∧ (m 19 = true → Vec 23 16 v34 3 (fI [nI 1, nI 9, nI 12]) l34)) ∧ St w [] ((b2, cb (cI (nI 1)) 23) :: (b8, cb (fI L4) 23) :: ((bif m 2 then l17 else []) ++ (bif m 5 then [(b20, cb (fI [nI 1, nI 9]) 23)] else []) ++ (bif m 10 then l25 else []) ++ (bif m 13 then [(b28, cb (fI [nI 1, nI 9]) 23)] else []) ++ (bif m 19 then l34 else []) ++ (bif m 23 then [(b38, cb (fI [nI 1, nI 9, nI 12]) 23)] else []))) w1)
      refine J.pr (fun hF => ?_)
      refine J.unguard rfl rfl rfl ?_
      refine J.buildSl (cs := fI [nI 1, nI 9, nI 12]) Ty.el24 Ty.s23 Ty.zID rfl rfl rfl rfl (by kernel_rfl) rfl rfl (fun bn => ?_)
      refine J.nil (JX.finB rfl (fun w1 hw => ⟨⟨⟨v17, l17, b20, v25, l25, b28, v34, l34, bn⟩, rfl, fun j h1 h2 => ?_, ?_⟩, trivial⟩))
      · match j, h1 with
        | 0, _ => rfl
        | 1, _ => rfl
        | 2, _ => rfl
        | 3, _ => rfl
        | 4, _ => rfl
        | 5, _ => rfl
        | 6, _ => rfl
        | 7, _ => rfl
        | 8, _ => rfl
        | 9, _ => rfl
        | 10, _ => rfl
        | 11, _ => rfl
        | 12, _ => rfl
        | 13, _ => rfl
        | 14, _ => rfl
        | 15, _ => rfl
        | 16, _ => rfl
        | 17, _ => rfl
        | 18, _ => rfl
        | 19, _ => rfl
        | 20, _ => rfl
        | 21, _ => rfl
        | 22, _ => rfl
        | 23, _ => exact absurd (h2.symm.trans hm) (by decide)
        | 24, _ => rfl
        | 25, _ => rfl
        | 26, _ => rfl
        | 27, _ => rfl
        | 28, _ => rfl
        | 29, _ => rfl
        | 30, _ => rfl
        | 31, _ => rfl
        | 32, _ => rfl
        | 33, _ => rfl
        | 34, _ => rfl
        | 35, _ => rfl
        | 36, _ => rfl
        | 37, _ => rfl
        | 38, _ => rfl
        | 39, _ => rfl
        | 40, _ => rfl
        | 41, _ => rfl
        | 42, _ => rfl
        | 43, _ => rfl
        | 44, _ => rfl
        | j + 45, h1 => omega
      show ((m 2 = true → Vec 23 16 v17 2 (fI [nI 1, nI 9]) l17) ∧ (m 10 = true → Vec 23 16 v25 2 (fI [nI 1, nI 9]) l25) ∧ (m 19 = true → Vec 23 16 v34 3 (fI [nI 1, nI 9, nI 12]) l34)) ∧ St w [] ((b2, cb (cI (nI 1)) 23) :: (b8, cb (fI L4) 23) :: ((bif m 2 then l17 else []) ++ (bif m 5 then [(b20, cb (fI [nI 1, nI 9]) 23)] else []) ++ (bif m 10 then l25 else []) ++ (bif m 13 then [(b28, cb (fI [nI 1, nI 9]) 23)] else []) ++ (bif m 19 then l34 else []) ++ (bif true then [(bn, cb (fI [nI 1, nI 9, nI 12]) 23)] else []))) w1
      simp only [hm, cond_true, cond_false] at hw ⊢
      exact ⟨hF, hw.perm (by (refine perm_cnt (fun _ => ?_)); simp only [cntB_append, cntB_cons, cntB_nil, Nat.add_zero, Nat.zero_add]; try ac_rfl)⟩
    · skip
      obtain ⟨v17, l17, b20, v25, l25, b28, v34, l34, b38⟩ := x
      show J _ _ _ _ _ ((31, .bool true) :: (37, .agg (cI (nI 12)).toArray) :: (38, .slice (some ⟨b38, 0, none⟩) 3 3) :: (34, v34) :: _) (fun w1 => ((m 2 = true → Vec 23 16 v17 2 (fI [nI 1, nI 9]) l17) ∧ (m 10 = true → Vec 23 16 v25 2 (fI [nI 1, nI 9]) l25) ∧ (m 19 = true → Vec 23 16 v34 3 (fI [nI 1, nI 9, nI 12]) l34)) ∧ St w [] ((b2, cb (cI (nI 1)) 23) :: (b8, cb (fI L4) 23) :: ((bif m 2 then l17 else []) ++ (bif m 5 then [(b20, cb (fI [nI 1, nI 9]) 23)] else []) ++ (bif m 10 then l25 else []) ++ (bif m 13 then [(b28, cb (fI [nI 1, nI 9]) 23)] else []) ++ (bif m 19 then l34 else []) ++ (bif m 23 then [(b38, cb (fI [nI 1, nI 9, nI 12]) 23)] else []))) w1)
      have hp19 : m 19 = true := predsT hp (by kernel_rfl)
      have hp23 : m 23 = true := predsT hp (by kernel_rfl)
      refine J.pr (fun hF => ?_)
      refine J.unguard rfl rfl rfl ?_
      refine J.callB (v := .bool true) (fun w1 w2 hw hb => hw.step hb) Ty.bd19 rfl rfl (fun w1 hw => by
        have hv := hF.2.2 hp19
        have h := sameIDs_spec v34 (.slice (some ⟨b38, 0, none⟩) 3 3) [nI 1, nI 9, nI 12] [nI 1, nI 9, nI 12] w1 (hv.rowM hw (fun q hq => by simp [hp19, hq])) (Row.own (cs := fI [nI 1, nI 9, nI 12]) (tb := 23) (fr := (0, 0)) hw (by simp [hp23]) rfl (Nat.le_refl _)) (by decide) (by decide)
        simpa using h) ?_
      exact J.nil (JX.finB rfl (fun w1 hw => ⟨⟨⟨v17, l17, b20, v25, l25, b28, v34, l34, b38⟩, rfl, fun _ _ _ => rfl, hF, hw⟩, trivial⟩))
    · skip
      obtain ⟨v17, l17, b20, v25, l25, b28, v34, l34, b38⟩ := x
      show J _ _ _ _ _ ((39, .bool true) :: (31, .bool true) :: _) (fun w1 => ((m 2 = true → Vec 23 16 v17 2 (fI [nI 1, nI 9]) l17) ∧ (m 10 = true → Vec 23 16 v25 2 (fI [nI 1, nI 9]) l25) ∧ (m 19 = true → Vec 23 16 v34 3 (fI [nI 1, nI 9, nI 12]) l34)) ∧ St w [] ((b2, cb (cI (nI 1)) 23) :: (b8, cb (fI L4) 23) :: ((bif m 2 then l17 else []) ++ (bif m 5 then [(b20, cb (fI [nI 1, nI 9]) 23)] else []) ++ (bif m 10 then l25 else []) ++ (bif m 13 then [(b28, cb (fI [nI 1, nI 9]) 23)] else []) ++ (bif m 19 then l34 else []) ++ (bif m 23 then [(b38, cb (fI [nI 1, nI 9, nI 12]) 23)] else []))) w1)
      refine J.pr (fun hF => ?_)
      (first | refine J.pickT rfl rfl rfl ?_ | refine J.pickF rfl rfl rfl ?_)
      exact J.nil (JX.finB rfl (fun w1 hw => ⟨⟨⟨v17, l17, b20, v25, l25, b28, v34, l34, b38⟩, rfl, fun _ _ _ => rfl, hF, hw⟩, trivial⟩))
    · skip
      obtain ⟨v17, l17, b20, v25, l25, b28, v34, l34, b38⟩ := x
      show J _ _ _ _ _ ((39, .bool true) :: (40, .bool true) :: _) (fun w1 => ((m 2 = true → Vec 23 16 v17 2 (fI [nI 1, nI 9]) l17) ∧ (m 10 = true → Vec 23 16 v25 2 (fI [nI 1, nI 9]) l25) ∧ (m 19 = true → Vec 23 16 v34 3 (fI [nI 1, nI 9, nI 12]) l34)) ∧ St w [] ((b2, cb (cI (nI 1)) 23) :: (b8, cb (fI L4) 23) :: ((bif m 2 then l17 else []) ++ (bif m 5 then [(b20, cb (fI [nI 1, nI 9]) 23)] else []) ++ (bif m 10 then l25 else []) ++ (bif m 13 then [(b28, cb (fI [nI 1, nI 9]) 23)] else []) ++ (bif m 19 then l34 else []) ++ (bif m 23 then [(b38, cb (fI [nI 1, nI 9, nI 12]) 23)] else []))) w1)
      refine J.pr (fun hF => ?_)
      refine J.move rfl rfl ?_
      exact J.nil (JX.finB rfl (fun w1 hw => ⟨⟨⟨v17, l17, b20, v25, l25, b28, v34, l34, b38⟩, rfl, fun _ _ _ => rfl, hF, hw⟩, trivial⟩))
    · skip
      obtain ⟨v17, l17, b20, v25, l25, b28, v34, l34, b38⟩ := x
      show J _ _ _ _ _ ((41, .bool true) :: _) (fun w1 => ((m 2 = true → Vec 23 16 v17 2 (fI [nI 1, nI 9]) l17) ∧ (m 10 = true → Vec 23 16 v25 2 (fI [nI 1, nI 9]) l25) ∧ (m 19 = true → Vec 23 16 v34 3 (fI [nI 1, nI 9, nI 12]) l34)) ∧ St w [] ((b2, cb (cI (nI 1)) 23) :: (b8, cb (fI L4) 23) :: ((bif m 2 then l17 else []) ++ (bif m 5 then [(b20, cb (fI [nI 1, nI 9]) 23)] else []) ++ (bif m 10 then l25 else []) ++ (bif m 13 then [(b28, cb (fI [nI 1, nI 9]) 23)] else []) ++ (bif m 19 then l34 else []) ++ (bif m 23 then [(b38, cb (fI [nI 1, nI 9, nI 12]) 23)] else []))) w1)
      refine J.pr (fun hF => ?_)
      first
        | (refine J.skip rfl rfl rfl rfl rfl ?_)
        | (refine J.skipU rfl rfl rfl rfl ?_)
        | (refine J.unguard rfl rfl rfl ?_; refine J.move rfl rfl ?_)
      exact J.nil (JX.finB rfl (fun w1 hw => ⟨⟨⟨v17, l17, b20, v25, l25, b28, v34, l34, b38⟩, rfl, fun _ _ _ => rfl, hF, hw⟩, trivial⟩))
    · skip
      obtain ⟨v17, l17, b20, v25, l25, b28, v34, l34, b38⟩ := x
      show J _ _ _ _ _ ((42, .bool true) :: (41, .bool true) :: _) (fun w1 => ((m 2 = true → Vec 23 16 v17 2 (fI [nI 1, nI 9]) l17) ∧ (m 10 = true → Vec 23 16 v25 2 (fI [nI 1, nI 9]) l25) ∧ (m 19 = true → Vec 23 16 v34 3 (fI [nI 1, nI 9, nI 12]) l34)) ∧ St w [] ((b2, cb (cI (nI 1)) 23) :: (b8, cb (fI L4) 23) :: ((bif m 2 then l17 else []) ++ (bif m 5 then [(b20, cb (fI [nI 1, nI 9]) 23)] else []) ++ (bif m 10 then l25 else []) ++ (bif m 13 then [(b28, cb (fI [nI 1, nI 9]) 23)] else []) ++ (bif m 19 then l34 else []) ++ (bif m 23 then [(b38, cb (fI [nI 1, nI 9, nI 12]) 23)] else []))) w1)
      refine J.pr (fun hF => ?_)
      (first | refine J.pickT rfl rfl rfl ?_ | refine J.pickF rfl rfl rfl ?_)
      exact J.nil (JX.finB rfl (fun w1 hw => ⟨⟨⟨v17, l17, b20, v25, l25, b28, v34, l34, b38⟩, rfl, fun _ _ _ => rfl, hF, hw⟩, trivial⟩))
    · skip
      obtain ⟨v17, l17, b20, v25, l25, b28, v34, l34, b38⟩ := x
      show J _ _ _ _ _ ((41, .bool true) :: (43, .bool true) :: _) (fun w1 => ((m 2 = true → Vec 23 16 v17 2 (fI [nI 1, nI 9]) l17) ∧ (m 10 = true → Vec 23 16 v25 2 (fI [nI 1, nI 9]) l25) ∧ (m 19 = true → Vec 23 16 v34 3 (fI [nI 1, nI 9, nI 12]) l34)) ∧ St w [] ((b2, cb (cI (nI 1)) 23) :: (b8, cb (fI L4) 23) :: ((bif m 2 then l17 else []) ++ (bif m 5 then [(b20, cb (fI [nI 1, nI 9]) 23)] else []) ++ (bif m 10 then l25 else []) ++ (bif m 13 then [(b28, cb (fI [nI 1, nI 9]) 23)] else []) ++ (bif m 19 then l34 else []) ++ (bif m 23 then [(b38, cb (fI [nI 1, nI 9, nI 12]) 23)] else []))) w1)
      refine J.pr (fun hF => ?_)
      refine J.move rfl rfl ?_
      exact J.nil (JX.finB rfl (fun w1 hw => ⟨⟨⟨v17, l17, b20, v25, l25, b28, v34, l34, b38⟩, rfl, fun _ _ _ => rfl, hF, hw⟩, trivial⟩))
    · skip
      obtain ⟨v17, l17, b20, v25, l25, b28, v34, l34, b38⟩ := x
      show J _ _ _ _ _ ((44, .bool true) :: _) (fun w1 => ((m 2 = true → Vec 23 16 v17 2 (fI [nI 1, nI 9]) l17) ∧ (m 10 = true → Vec 23 16 v25 2 (fI [nI 1, nI 9]) l25) ∧ (m 19 = true → Vec 23 16 v34 3 (fI [nI 1, nI 9, nI 12]) l34)) ∧ St w [] ((b2, cb (cI (nI 1)) 23) :: (b8, cb (fI L4) 23) :: ((bif m 2 then l17 else []) ++ (bif m 5 then [(b20, cb (fI [nI 1, nI 9]) 23)] else []) ++ (bif m 10 then l25 else []) ++ (bif m 13 then [(b28, cb (fI [nI 1, nI 9]) 23)] else []) ++ (bif m 19 then l34 else []) ++ (bif m 23 then [(b38, cb (fI [nI 1, nI 9, nI 12]) 23)] else []))) w1)
      refine J.pr (fun hF => ?_)
      refine J.unguard rfl rfl rfl ?_
      refine J.loadOA (vs := cI (nI 1)) Ty.a23 Ty.s23 rfl (.head _) rfl rfl rfl ?_
      exact J.nil (JX.finB rfl (fun w1 hw => ⟨⟨⟨v17, l17, b20, v25, l25, b28, v34, l34, b38⟩, rfl, fun _ _ _ => rfl, hF, hw⟩, trivial⟩))
    · skip
      obtain ⟨v17, l17, b20, v25, l25, b28, v34, l34, b38⟩ := x
      show J _ _ _ _ _ ((44, .bool true) :: (44, .bool true) :: _) (fun w1 => ((m 2 = true → Vec 23 16 v17 2 (fI [nI 1, nI 9]) l17) ∧ (m 10 = true → Vec 23 16 v25 2 (fI [nI 1, nI 9]) l25) ∧ (m 19 = true → Vec 23 16 v34 3 (fI [nI 1, nI 9, nI 12]) l34)) ∧ St w [] ((b2, cb (cI (nI 1)) 23) :: (b8, cb (fI L4) 23) :: ((bif m 2 then l17 else []) ++ (bif m 5 then [(b20, cb (fI [nI 1, nI 9]) 23)] else []) ++ (bif m 10 then l25 else []) ++ (bif m 13 then [(b28, cb (fI [nI 1, nI 9]) 23)] else []) ++ (bif m 19 then l34 else []) ++ (bif m 23 then [(b38, cb (fI [nI 1, nI 9, nI 12]) 23)] else []))) w1)
      refine J.pr (fun hF => ?_)
      refine J.unguard rfl rfl rfl ?_
      refine J.callB (v := .agg (cI (nI 1)).toArray) (fun w1 w2 hw hb => hw.step hb) Ty.bd44 rfl rfl (fun w1 hw => n_spec 1 w1) ?_
      exact J.nil (JX.finB rfl (fun w1 hw => ⟨⟨⟨v17, l17, b20, v25, l25, b28, v34, l34, b38⟩, rfl, fun _ _ _ => rfl, hF, hw⟩, trivial⟩))
    · skip
      obtain ⟨v17, l17, b20, v25, l25, b28, v34, l34, b38⟩ := x
      show J _ _ _ _ _ ((44, .bool true) :: (46, .agg (cI (nI 1)).toArray) :: (45, .agg (cI (nI 1)).toArray) :: _) (fun w1 => ((m 2 = true → Vec 23 16 v17 2 (fI [nI 1, nI 9]) l17) ∧ (m 10 = true → Vec 23 16 v25 2 (fI [nI 1, nI 9]) l25) ∧ (m 19 = true → Vec 23 16 v34 3 (fI [nI 1, nI 9, nI 12]) l34)) ∧ St w [] ((b2, cb (cI (nI 1)) 23) :: (b8, cb (fI L4) 23) :: ((bif m 2 then l17 else []) ++ (bif m 5 then [(b20, cb (fI [nI 1, nI 9]) 23)] else []) ++ (bif m 10 then l25 else []) ++ (bif m 13 then [(b28, cb (fI [nI 1, nI 9]) 23)] else []) ++ (bif m 19 then l34 else []) ++ (bif m 23 then [(b38, cb (fI [nI 1, nI 9, nI 12]) 23)] else []))) w1)
      refine J.pr (fun hF => ?_)
      refine J.unguard rfl rfl rfl ?_
      refine J.eqI Ty.QI Ty.keyI rfl rfl rfl ?_
      refine J.name 47 rfl (show _ = Value.bool true by simp) ?_
      exact J.nil (JX.finB rfl (fun w1 hw => ⟨⟨⟨v17, l17, b20, v25, l25, b28, v34, l34, b38⟩, rfl, fun _ _ _ => rfl, hF, hw⟩, trivial⟩))
    · skip
      obtain ⟨v17, l17, b20, v25, l25, b28, v34, l34, b38⟩ := x
      show J _ _ _ _ _ ((47, .bool true) :: (44, .bool true) :: _) (fun w1 => ((m 2 = true → Vec 23 16 v17 2 (fI [nI 1, nI 9]) l17) ∧ (m 10 = true → Vec 23 16 v25 2 (fI [nI 1, nI 9]) l25) ∧ (m 19 = true → Vec 23 16 v34 3 (fI [nI 1, nI 9, nI 12]) l34)) ∧ St w [] ((b2, cb (cI (nI 1)) 23) :: (b8, cb (fI L4) 23) :: ((bif m 2 then l17 else []) ++ (bif m 5 then [(b20, cb (fI [nI 1, nI 9]) 23)] else []) ++ (bif m 10 then l25 else []) ++ (bif m 13 then [(b28, cb (fI [nI 1, nI 9]) 23)] else []) ++ (bif m 19 then l34 else []) ++ (bif m 23 then [(b38, cb (fI [nI 1, nI 9, nI 12]) 23)] else []))) w1)
      refine J.pr (fun hF => ?_)
      (first | refine J.pickT rfl rfl rfl ?_ | refine J.pickF rfl rfl rfl ?_)
      exact J.nil (JX.finB rfl (fun w1 hw => ⟨⟨⟨v17, l17, b20, v25, l25, b28, v34, l34, b38⟩, rfl, fun _ _ _ => rfl, hF, hw⟩, trivial⟩))
    · skip
      obtain ⟨v17, l17, b20, v25, l25, b28, v34, l34, b38⟩ := x
      show J _ _ _ _ _ ((46, .agg (cI (nI 1)).toArray) :: (48, .bool true) :: _) (fun w1 => ((m 2 = true → Vec 23 16 v17 2 (fI [nI 1, nI 9]) l17) ∧ (m 10 = true → Vec 23 16 v25 2 (fI [nI 1, nI 9]) l25) ∧ (m 19 = true → Vec 23 16 v34 3 (fI [nI 1, nI 9, nI 12]) l34)) ∧ St w [] ((b2, cb (cI (nI 1)) 23) :: (b8, cb (fI L4) 23) :: ((bif m 2 then l17 else []) ++ (bif m 5 then [(b20, cb (fI [nI 1, nI 9]) 23)] else []) ++ (bif m 10 then l25 else []) ++ (bif m 13 then [(b28, cb (fI [nI 1, nI 9]) 23)] else []) ++ (bif m 19 then l34 else []) ++ (bif m 23 then [(b38, cb (fI [nI 1, nI 9, nI 12]) 23)] else []))) w1)
      refine J.pr (fun hF => ?_)
      refine J.move rfl rfl ?_
      exact J.nil (JX.finB rfl (fun w1 hw => ⟨⟨⟨v17, l17, b20, v25, l25, b28, v34, l34, b38⟩, rfl, fun _ _ _ => rfl, hF, hw⟩, trivial⟩))
    · skip
      obtain ⟨v17, l17, b20, v25, l25, b28, v34, l34, b38⟩ := x
      show J _ _ _ _ _ ((49, .bool true) :: _) (fun w1 => ((m 2 = true → Vec 23 16 v17 2 (fI [nI 1, nI 9]) l17) ∧ (m 10 = true → Vec 23 16 v25 2 (fI [nI 1, nI 9]) l25) ∧ (m 19 = true → Vec 23 16 v34 3 (fI [nI 1, nI 9, nI 12]) l34)) ∧ St w [] ((b2, cb (cI (nI 1)) 23) :: (b8, cb (fI L4) 23) :: ((bif m 2 then l17 else []) ++ (bif m 5 then [(b20, cb (fI [nI 1, nI 9]) 23)] else []) ++ (bif m 10 then l25 else []) ++ (bif m 13 then [(b28, cb (fI [nI 1, nI 9]) 23)] else []) ++ (bif m 19 then l34 else []) ++ (bif m 23 then [(b38, cb (fI [nI 1, nI 9, nI 12]) 23)] else []))) w1)
      refine J.pr (fun hF => ?_)
      first
        | (refine J.skip rfl rfl rfl rfl rfl ?_)
        | (refine J.skipU rfl rfl rfl rfl ?_)
        | (refine J.unguard rfl rfl rfl ?_; refine J.move rfl rfl ?_)
      exact J.nil (JX.finB rfl (fun w1 hw => ⟨⟨⟨v17, l17, b20, v25, l25, b28, v34, l34, b38⟩, rfl, fun _ _ _ => rfl, hF, hw⟩, trivial⟩))
    · skip
      obtain ⟨v17, l17, b20, v25, l25, b28, v34, l34, b38⟩ := x
      show J _ _ _ _ _ ((49, .bool true) :: (49, .bool true) :: _) (fun w1 => ((m 2 = true → Vec 23 16 v17 2 (fI [nI 1, nI 9]) l17) ∧ (m 10 = true → Vec 23 16 v25 2 (fI [nI 1, nI 9]) l25) ∧ (m 19 = true → Vec 23 16 v34 3 (fI [nI 1, nI 9, nI 12]) l34)) ∧ St w [] ((b2, cb (cI (nI 1)) 23) :: (b8, cb (fI L4) 23) :: ((bif m 2 then l17 else []) ++ (bif m 5 then [(b20, cb (fI [nI 1, nI 9]) 23)] else []) ++ (bif m 10 then l25 else []) ++ (bif m 13 then [(b28, cb (fI [nI 1, nI 9]) 23)] else []) ++ (bif m 19 then l34 else []) ++ (bif m 23 then [(b38, cb (fI [nI 1, nI 9, nI 12]) 23)] else []))) w1)
      refine J.pr (fun hF => ?_)
      refine J.unguard rfl rfl rfl ?_
      refine J.callB (v := .agg (cI (nI 9)).toArray) (fun w1 w2 hw hb => hw.step hb) Ty.bd44 rfl rfl (fun w1 hw => n_spec 9 w1) ?_
      exact J.nil (JX.finB rfl (fun w1 hw => ⟨⟨⟨v17, l17, b20, v25, l25, b28, v34, l34, b38⟩, rfl, fun _ _ _ => rfl, hF, hw⟩, trivial⟩))
    · skip
      obtain ⟨v17, l17, b20, v25, l25, b28, v34, l34, b38⟩ := x
      show J _ _ _ _ _ ((49, .bool true) :: (51, .agg (cI (nI 9)).toArray) :: (51, .agg (cI (nI 9)).toArray) :: (50, .slice (some ⟨b8, 0, none⟩) 4 4) :: _) (fun w1 => ((m 2 = true → Vec 23 16 v17 2 (fI [nI 1, nI 9]) l17) ∧ (m 10 = true → Vec 23 16 v25 2 (fI [nI 1, nI 9]) l25) ∧ (m 19 = true → Vec 23 16 v34 3 (fI [nI 1, nI 9, nI 12]) l34)) ∧ St w [] ((b2, cb (cI (nI 1)) 23) :: (b8, cb (fI L4) 23) :: ((bif m 2 then l17 else []) ++ (bif m 5 then [(b20, cb (fI [nI 1, nI 9]) 23)] else []) ++ (bif m 10 then l25 else []) ++ (bif m 13 then [(b28, cb (fI [nI 1, nI 9]) 23)] else []) ++ (bif m 19 then l34 else []) ++ (bif m 23 then [(b38, cb (fI [nI 1, nI 9, nI 12]) 23)] else []))) w1)
      refine J.pr (fun hF => ?_)
      refine J.unguard rfl rfl rfl ?_
      refine J.callB (v := .bool true) (fun w1 w2 hw hb => hw.step hb) Ty.bd24 rfl rfl (fun w1 hw => by
        have h := has_spec (.slice (some ⟨b8, 0, none⟩) 4 4) L4 (nI 9) w1 (Row.own (cs := fI L4) (tb := 23) (fr := (0, 0)) hw (.tail _ (.head _)) rfl (Nat.le_refl _)) (by decide)
        rw [show decide (nI 9 ∈ L4) = true by decide +kernel] at h
        exact h) ?_
      exact J.nil (JX.finB rfl (fun w1 hw => ⟨⟨⟨v17, l17, b20, v25, l25, b28, v34, l34, b38⟩, rfl, fun _ _ _ => rfl, hF, hw⟩, trivial⟩))
    · skip
      obtain ⟨v17, l17, b20, v25, l25, b28, v34, l34, b38⟩ := x
      show J _ _ _ _ _ ((52, .bool true) :: (49, .bool true) :: _) (fun w1 => ((m 2 = true → Vec 23 16 v17 2 (fI [nI 1, nI 9]) l17) ∧ (m 10 = true → Vec 23 16 v25 2 (fI [nI 1, nI 9]) l25) ∧ (m 19 = true → Vec 23 16 v34 3 (fI [nI 1, nI 9, nI 12]) l34)) ∧ St w [] ((b2, cb (cI (nI 1)) 23) :: (b8, cb (fI L4) 23) :: ((bif m 2 then l17 else []) ++ (bif m 5 then [(b20, cb (fI [nI 1, nI 9]) 23)] else []) ++ (bif m 10 then l25 else []) ++ (bif m 13 then [(b28, cb (fI [nI 1, nI 9]) 23)] else []) ++ (bif m 19 then l34 else []) ++ (bif m 23 then [(b38, cb (fI [nI 1, nI 9, nI 12]) 23)] else []))) w1)
      refine J.pr (fun hF => ?_)
      (first | refine J.pickT rfl rfl rfl ?_ | refine J.pickF rfl rfl rfl ?_)
      exact J.nil (JX.finB rfl (fun w1 hw => ⟨⟨⟨v17, l17, b20, v25, l25, b28, v34, l34, b38⟩, rfl, fun _ _ _ => rfl, hF, hw⟩, trivial⟩))
    · skip
      obtain ⟨v17, l17, b20, v25, l25, b28, v34, l34, b38⟩ := x
      show J _ _ _ _ _ ((52, .bool true) :: (53, .bool true) :: _) (fun w1 => ((m 2 = true → Vec 23 16 v17 2 (fI [nI 1, nI 9]) l17) ∧ (m 10 = true → Vec 23 16 v25 2 (fI [nI 1, nI 9]) l25) ∧ (m 19 = true → Vec 23 16 v34 3 (fI [nI 1, nI 9, nI 12]) l34)) ∧ St w [] ((b2, cb (cI (nI 1)) 23) :: (b8, cb (fI L4) 23) :: ((bif m 2 then l17 else []) ++ (bif m 5 then [(b20, cb (fI [nI 1, nI 9]) 23)] else []) ++ (bif m 10 then l25 else []) ++ (bif m 13 then [(b28, cb (fI [nI 1, nI 9]) 23)] else []) ++ (bif m 19 then l34 else []) ++ (bif m 23 then [(b38, cb (fI [nI 1, nI 9, nI 12]) 23)] else []))) w1)
      refine J.pr (fun hF => ?_)
      refine J.move rfl rfl ?_
      exact J.nil (JX.finB rfl (fun w1 hw => ⟨⟨⟨v17, l17, b20, v25, l25, b28, v34, l34, b38⟩, rfl, fun _ _ _ => rfl, hF, hw⟩, trivial⟩))
    · skip
      obtain ⟨v17, l17, b20, v25, l25, b28, v34, l34, b38⟩ := x
      show J _ _ _ _ _ ((54, .bool true) :: _) (fun w1 => ((m 2 = true → Vec 23 16 v17 2 (fI [nI 1, nI 9]) l17) ∧ (m 10 = true → Vec 23 16 v25 2 (fI [nI 1, nI 9]) l25) ∧ (m 19 = true → Vec 23 16 v34 3 (fI [nI 1, nI 9, nI 12]) l34)) ∧ St w [] ((b2, cb (cI (nI 1)) 23) :: (b8, cb (fI L4) 23) :: ((bif m 2 then l17 else []) ++ (bif m 5 then [(b20, cb (fI [nI 1, nI 9]) 23)] else []) ++ (bif m 10 then l25 else []) ++ (bif m 13 then [(b28, cb (fI [nI 1, nI 9]) 23)] else []) ++ (bif m 19 then l34 else []) ++ (bif m 23 then [(b38, cb (fI [nI 1, nI 9, nI 12]) 23)] else []))) w1)
      refine J.pr (fun hF => ?_)
      first
        | (refine J.skip rfl rfl rfl rfl rfl ?_)
        | (refine J.skipU rfl rfl rfl rfl ?_)
        | (refine J.unguard rfl rfl rfl ?_; refine J.move rfl rfl ?_)
      exact J.nil (JX.finB rfl (fun w1 hw => ⟨⟨⟨v17, l17, b20, v25, l25, b28, v34, l34, b38⟩, rfl, fun _ _ _ => rfl, hF, hw⟩, trivial⟩))
    · skip
      obtain ⟨v17, l17, b20, v25, l25, b28, v34, l34, b38⟩ := x
      show J _ _ _ _ _ ((54, .bool true) :: (54, .bool true) :: _) (fun w1 => ((m 2 = true → Vec 23 16 v17 2 (fI [nI 1, nI 9]) l17) ∧ (m 10 = true → Vec 23 16 v25 2 (fI [nI 1, nI 9]) l25) ∧ (m 19 = true → Vec 23 16 v34 3 (fI [nI 1, nI 9, nI 12]) l34)) ∧ St w [] ((b2, cb (cI (nI 1)) 23) :: (b8, cb (fI L4) 23) :: ((bif m 2 then l17 else []) ++ (bif m 5 then [(b20, cb (fI [nI 1, nI 9]) 23)] else []) ++ (bif m 10 then l25 else []) ++ (bif m 13 then [(b28, cb (fI [nI 1, nI 9]) 23)] else []) ++ (bif m 19 then l34 else []) ++ (bif m 23 then [(b38, cb (fI [nI 1, nI 9, nI 12]) 23)] else []))) w1)
      refine J.pr (fun hF => ?_)
      refine J.unguard rfl rfl rfl ?_
      refine J.callB (v := .agg (cI (nI 2)).toArray) (fun w1 w2 hw hb => hw.step hb) Ty.bd44 rfl rfl (fun w1 hw => n_spec 2 w1) ?_
      exact J.nil (JX.finB rfl (fun w1 hw => ⟨⟨⟨v17, l17, b20, v25, l25, b28, v34, l34, b38⟩, rfl, fun _ _ _ => rfl, hF, hw⟩, trivial⟩))
    · skip
      obtain ⟨v17, l17, b20, v25, l25, b28, v34, l34, b38⟩ := x
      show J _ _ _ _ _ ((54, .bool true) :: (56, .agg (cI (nI 2)).toArray) :: (56, .agg (cI (nI 2)).toArray) :: (55, .slice (some ⟨b8, 0, none⟩) 4 4) :: _) (fun w1 => ((m 2 = true → Vec 23 16 v17 2 (fI [nI 1, nI 9]) l17) ∧ (m 10 = true → Vec 23 16 v25 2 (fI [nI 1, nI 9]) l25) ∧ (m 19 = true → Vec 23 16 v34 3 (fI [nI 1, nI 9, nI 12]) l34)) ∧ St w [] ((b2, cb (cI (nI 1)) 23) :: (b8, cb (fI L4) 23) :: ((bif m 2 then l17 else []) ++ (bif m 5 then [(b20, cb (fI [nI 1, nI 9]) 23)] else []) ++ (bif m 10 then l25 else []) ++ (bif m 13 then [(b28, cb (fI [nI 1, nI 9]) 23)] else []) ++ (bif m 19 then l34 else []) ++ (bif m 23 then [(b38, cb (fI [nI 1, nI 9, nI 12]) 23)] else []))) w1)
      refine J.pr (fun hF => ?_)
      refine J.unguard rfl rfl rfl ?_
      refine J.callB (v := .bool false) (fun w1 w2 hw hb => hw.step hb) Ty.bd24 rfl rfl (fun w1 hw => by
        have h := has_spec (.slice (some ⟨b8, 0, none⟩) 4 4) L4 (nI 2) w1 (Row.own (cs := fI L4) (tb := 23) (fr := (0, 0)) hw (.tail _ (.head _)) rfl (Nat.le_refl _)) (by decide)
        rw [show decide (nI 2 ∈ L4) = false by decide +kernel] at h
        exact h) ?_
      exact J.nil (JX.finB rfl (fun w1 hw => ⟨⟨⟨v17, l17, b20, v25, l25, b28, v34, l34, b38⟩, rfl, fun _ _ _ => rfl, hF, hw⟩, trivial⟩))
    · skip
      obtain ⟨v17, l17, b20, v25, l25, b28, v34, l34, b38⟩ := x
      show J _ _ _ _ _ ((54, .bool true) :: (57, .bool false) :: _) (fun w1 => ((m 2 = true → Vec 23 16 v17 2 (fI [nI 1, nI 9]) l17) ∧ (m 10 = true → Vec 23 16 v25 2 (fI [nI 1, nI 9]) l25) ∧ (m 19 = true → Vec 23 16 v34 3 (fI [nI 1, nI 9, nI 12]) l34)) ∧ St w [] ((b2, cb (cI (nI 1)) 23) :: (b8, cb (fI L4) 23) :: ((bif m 2 then l17 else []) ++ (bif m 5 then [(b20, cb (fI [nI 1, nI 9]) 23)] else []) ++ (bif m 10 then l25 else []) ++ (bif m 13 then [(b28, cb (fI [nI 1, nI 9]) 23)] else []) ++ (bif m 19 then l34 else []) ++ (bif m 23 then [(b38, cb (fI [nI 1, nI 9, nI 12]) 23)] else []))) w1)
      refine J.pr (fun hF => ?_)
      first
        | (refine J.skip rfl rfl rfl rfl rfl ?_)
        | (refine J.skipU rfl rfl rfl rfl ?_)
        | (refine J.unguard rfl rfl rfl ?_; refine J.not rfl rfl ?_)
      exact J.nil (JX.finB rfl (fun w1 hw => ⟨⟨⟨v17, l17, b20, v25, l25, b28, v34, l34, b38⟩, rfl, fun _ _ _ => rfl, hF, hw⟩, trivial⟩))
    · skip
      obtain ⟨v17, l17, b20, v25, l25, b28, v34, l34, b38⟩ := x
      show J _ _ _ _ _ ((58, .bool true) :: (54, .bool true) :: _) (fun w1 => ((m 2 = true → Vec 23 16 v17 2 (fI [nI 1, nI 9]) l17) ∧ (m 10 = true → Vec 23 16 v25 2 (fI [nI 1, nI 9]) l25) ∧ (m 19 = true → Vec 23 16 v34 3 (fI [nI 1, nI 9, nI 12]) l34)) ∧ St w [] ((b2, cb (cI (nI 1)) 23) :: (b8, cb (fI L4) 23) :: ((bif m 2 then l17 else []) ++ (bif m 5 then [(b20, cb (fI [nI 1, nI 9]) 23)] else []) ++ (bif m 10 then l25 else []) ++ (bif m 13 then [(b28, cb (fI [nI 1, nI 9]) 23)] else []) ++ (bif m 19 then l34 else []) ++ (bif m 23 then [(b38, cb (fI [nI 1, nI 9, nI 12]) 23)] else []))) w1)
      refine J.pr (fun hF => ?_)
      (first | refine J.pickT rfl rfl rfl ?_ | refine J.pickF rfl rfl rfl ?_)
      exact J.nil (JX.finB rfl (fun w1 hw => ⟨⟨⟨v17, l17, b20, v25, l25, b28, v34, l34, b38⟩, rfl, fun _ _ _ => rfl, hF, hw⟩, trivial⟩))
  case htail =>
    intro x
    obtain ⟨v17, l17, b20, v25, l25, b28, v34, l34, b38⟩ := x
    show J _ _ _ _ _ ((59, .bool true) :: (58, .bool true) :: (57, .bool false) :: (56, .agg (cI (nI 2)).toArray) :: (55, .slice (some ⟨b8, 0, none⟩) 4 4) :: (54, .bool true) :: (53, .bool true) :: (52, .bool true) :: (51, .agg (cI (nI 9)).toArray) :: (50, .slice (some ⟨b8, 0, none⟩) 4 4) :: (49, .bool true) :: (48, .bool true) :: (47, .bool true) :: (46, .agg (cI (nI 1)).toArray) :: (45, .agg (cI (nI 1)).toArray) :: (44, .bool true) :: (43, .bool true) :: (42, .bool true) :: (41, .bool true) :: (40, .bool true) :: (39, .bool true) :: (38, .slice (some ⟨b38, 0, none⟩) 3 3) :: (37, .agg (cI (nI 12)).toArray) :: (36, .agg (cI (nI 9)).toArray) :: (35, .agg (cI (nI 1)).toArray) :: (34, v34) :: (33, .slice (some ⟨b8, 0, none⟩) 4 4) :: (32, .agg (cI (nI 4)).toArray) :: (31, .bool true) :: (30, .bool true) :: (29, .bool true) :: (28, .slice (some ⟨b28, 0, none⟩) 2 2) :: (27, .agg (cI (nI 9)).toArray) :: (26, .agg (cI (nI 1)).toArray) :: (25, v25) :: (24, .slice (some ⟨b8, 0, none⟩) 4 4) :: (23, .agg (cI (nI 12)).toArray) :: (22, .bool true) :: (21, .bool true) :: (20, .slice (some ⟨b20, 0, none⟩) 2 2) :: (19, .agg (cI (nI 9)).toArray) :: (18, .agg (cI (nI 1)).toArray) :: (17, v17) :: (16, .slice (some ⟨b8, 0, none⟩) 4 4) :: (15, .agg (cI (nI 4)).toArray) :: _) (fun w1 => ((true = true → Vec 23 16 v17 2 (fI [nI 1, nI 9]) l17) ∧ (true = true → Vec 23 16 v25 2 (fI [nI 1, nI 9]) l25) ∧ (true = true → Vec 23 16 v34 3 (fI [nI 1, nI 9, nI 12]) l34)) ∧ St w [] ((b2, cb (cI (nI 1)) 23) :: (b8, cb (fI L4) 23) :: ((bif true then l17 else []) ++ (bif true then [(b20, cb (fI [nI 1, nI 9]) 23)] else []) ++ (bif true then l25 else []) ++ (bif true then [(b28, cb (fI [nI 1, nI 9]) 23)] else []) ++ (bif true then l34 else []) ++ (bif true then [(b38, cb (fI [nI 1, nI 9, nI 12]) 23)] else []))) w1)
    refine J.pr (fun hF => ?_)
    refine J.assign rfl rfl ?_
    refine J.nil ?_
    refine JX.thenN (hK3 _ _ ?_)
    refine JC.ret ?_
    refine JX.ret1 rfl rfl (fun w hw => ?_)
    exact ⟨rfl, (hw.drop (List.nil_sublist _)).below⟩

end Go.Proofs.Ytdpbgmbicdgdbaa
